/- Walks and plain laws of this seat's functions, part 2: R2a R2b. -/
import Derived.Test.YtikdhkmcdmnadaaGreatFmtJ01
set_option linter.unusedVariables false
set_option linter.unusedSimpArgs false
namespace Go.Proofs.YtikdhkmcdmnadaaGreatFmt
open Go.RowKit

/-! ### ambitref2: whole numbers as words of 32 bits -/
set_option maxHeartbeats 400000 in
theorem trim_calls (A : Option Addr) (n c t base : Nat) (xs : List Nat) (w : World) (hn : xs.length = n) (hA : u32.Row t w base A xs) (hl : xs.length ≤ 4398046511104) (hc : n ≤ c) :
    Calls Tryz.prog 32 #[.slice A n c] w fun e w' => e = .returned (.slice A (trimLen xs n) c) ∧ w = w' := by
  subst hn
  go_enter Tryz.func32, Tryz.ntmps32
  go_wp2
  go_loop [3] (fun i => ∃ k : Nat, k ≤ xs.length ∧ i = .int .i64 k ∧ Hid (trimLen xs k = trimLen xs xs.length)) (fun i => (intOf i).toNat)
  case atStart => exact ⟨_, Nat.le_refl _, rfl, rfl⟩
  case round =>
    obtain ⟨k, hk, rfl, hT⟩ := hrel
    cases k with
    | zero =>
      go_wp2
      go_ret
      exact ⟨ret_slice (by rw [← hT.out]; rfl), rfl⟩
    | succ k =>
      obtain ⟨a, x, rfl, hca, hx, hxe⟩ := u32at hA (i := k) (by omega)
      by_cases h0 : x = 0
      · subst h0
        go_wp2
        go_round
        case rel => exact ⟨k, by omega, by go_num, (trimLen_zero hxe.out).symm.trans hT.out⟩
        case measure => simp [intOf]
      · go_wp2
        go_ret
        exact ⟨ret_slice (by rw [← hT.out, trimLen_pos (by rw [hxe.out]; exact h0)]), rfl⟩

set_option maxHeartbeats 1000000 in
theorem plus_ge (A B : Option Addr) (n m ca cb t1 t2 base b2 b3 : Nat) (xs ys : List Nat) (w : World) (hn : xs.length = n) (hm : ys.length = m) (hA : u32.Row t1 w base A xs) (hB : u32.Row t2 w b3 B ys)
    (hl : m ≤ n) (hx : n ≤ 1099511627776) :
    Calls Tryz.prog 73 #[.slice A n ca, .slice B m cb] w fun e w' => ∃ v, e = .returned v ∧ mRd.R w' b2 (val B32 xs + val B32 ys) [v] ∧ Below w.heap.size w w' := by
  subst hn hm
  have hm := fun W => make32 (n := xs.length + 1) W (by omega)
  simp only [Int.natCast_add, Int.cast_ofNat_Int] at hm
  go_enter Tryz.func73, Tryz.ntmps73
  go_wp2
  clear hm
  go_loopw [6, 7] (fun c i wr => ∃ (k cc : Nat) (zs : List Nat), i = .int .i64 k ∧ c = .int .u64 cc ∧ cc ≤ 1 ∧ k ≤ xs.length ∧ Hid (PlusInv B32 xs ys k cc zs) ∧ Hid (Blk wr w.heap.size 58 (i32s zs)) ∧ Hid (Below w.heap.size w wr)) (fun _ i _ => xs.length - (intOf i).toNat)
  case atStart => exact ⟨0, 0, _, rfl, rfl, by omega, by omega, PlusInv.start _ (by decide) _ _, by rw [← made32]; exact Blk.new _ _ _, below_new (Below.refl _ _) _⟩
  case round =>
    obtain ⟨k, cc, zs, rfl, rfl, hc1, hk, hI, hZ, hW⟩ := hrel
    have hzl := hI.out.1
    by_cases hlt : k < xs.length
    · obtain ⟨a, x, rfl, hca, hxb, hx⟩ := u32at (hA.below hW.out) hlt
      obtain ⟨z, hz1, hz2, _, _⟩ := hZ.out.at32 (i := k) (by omega) hI.out.2.1
      by_cases hlt2 : k < ys.length
      · obtain ⟨b, y, rfl, hcb, hyb, hy⟩ := u32at (hB.below hW.out) hlt2
        go_wp2
        go_roundw
        case rel => exact ⟨k + 1, _, _, by go_num, by go_num, by simp only [B32]; omega, by omega, PlusInv.step (s := cc + x + y) (by decide) hI.out hlt (by rw [hx.out, hy.out]), hZ.out.set32 _ _ _ (by rfl), hW.out.setCell (Nat.le_refl _) _⟩
        case measure => simp [intOf]; omega
      · go_wp2
        go_roundw
        case rel => exact ⟨k + 1, _, _, by go_num, by go_num, by simp only [B32]; omega, by omega, PlusInv.step (s := cc + x) (by decide) hI.out hlt (by rw [hx.out, getD_ge (by omega)]; rfl), hZ.out.set32 _ _ _ (by rfl), hW.out.setCell (Nat.le_refl _) _⟩
        case measure => simp [intOf]; omega
    · obtain rfl : k = xs.length := by omega
      obtain ⟨z, hz1, hz2, _, _⟩ := hZ.out.at32 (i := xs.length) (by omega) hI.out.2.1
      have hd := hI.out.done (by decide) (by omega) (show cc < B32 by simp only [B32]; omega)
      have hb := hZ.out.set32 xs.length cc cc rfl
      go_wp2_with fail
      refine (trim_calls _ _ _ 58 0 (zs.set xs.length cc) _ (by simpa using hzl) (u32all hb hd.2) (by simp; omega) (Nat.le_refl _)).mono ?_
      rintro e w' ⟨rfl, rfl⟩
      have HH := Lib.hid (mRd_trim (base := b2) hb hd.2 (by simpa using hzl) (Nat.le_refl _) hd.1)
      clear hb hd
      go_wp2
      go_ret
      exact ⟨_, rfl, HH.out, hW.out.setCell (Nat.le_refl _) _⟩

set_option maxHeartbeats 1000000 in
theorem plus_lt (A B : Option Addr) (n m ca cb t1 t2 base b2 b3 : Nat) (xs ys : List Nat) (w : World) (hn : xs.length = n) (hm : ys.length = m) (hA : u32.Row t1 w base A xs) (hB : u32.Row t2 w b3 B ys)
    (hl : n < m) (hx : m ≤ 1099511627776) :
    Calls Tryz.prog 73 #[.slice A n ca, .slice B m cb] w fun e w' => ∃ v, e = .returned v ∧ mRd.R w' b2 (val B32 xs + val B32 ys) [v] ∧ Below w.heap.size w w' := by
  subst hn hm
  have hm := fun W => make32 (n := ys.length + 1) W (by omega)
  simp only [Int.natCast_add, Int.cast_ofNat_Int] at hm
  go_enter Tryz.func73, Tryz.ntmps73
  go_wp2
  clear hm
  go_loopw [6, 7] (fun c i wr => ∃ (k cc : Nat) (zs : List Nat), i = .int .i64 k ∧ c = .int .u64 cc ∧ cc ≤ 1 ∧ k ≤ ys.length ∧ Hid (PlusInv B32 ys xs k cc zs) ∧ Hid (Blk wr w.heap.size 58 (i32s zs)) ∧ Hid (Below w.heap.size w wr)) (fun _ i _ => ys.length - (intOf i).toNat)
  case atStart => exact ⟨0, 0, _, rfl, rfl, by omega, by omega, PlusInv.start _ (by decide) _ _, by rw [← made32]; exact Blk.new _ _ _, below_new (Below.refl _ _) _⟩
  case round =>
    obtain ⟨k, cc, zs, rfl, rfl, hc1, hk, hI, hZ, hW⟩ := hrel
    have hzl := hI.out.1
    by_cases hlt : k < ys.length
    · obtain ⟨a, x, rfl, hca, hxb, hx⟩ := u32at (hB.below hW.out) hlt
      obtain ⟨z, hz1, hz2, _, _⟩ := hZ.out.at32 (i := k) (by omega) hI.out.2.1
      by_cases hlt2 : k < xs.length
      · obtain ⟨b, y, rfl, hcb, hyb, hy⟩ := u32at (hA.below hW.out) hlt2
        go_wp2
        go_roundw
        case rel => exact ⟨k + 1, _, _, by go_num, by go_num, by simp only [B32]; omega, by omega, PlusInv.step (s := cc + x + y) (by decide) hI.out hlt (by rw [hx.out, hy.out]), hZ.out.set32 _ _ _ (by rfl), hW.out.setCell (Nat.le_refl _) _⟩
        case measure => simp [intOf]; omega
      · go_wp2
        go_roundw
        case rel => exact ⟨k + 1, _, _, by go_num, by go_num, by simp only [B32]; omega, by omega, PlusInv.step (s := cc + x) (by decide) hI.out hlt (by rw [hx.out, getD_ge (by omega)]; rfl), hZ.out.set32 _ _ _ (by rfl), hW.out.setCell (Nat.le_refl _) _⟩
        case measure => simp [intOf]; omega
    · obtain rfl : k = ys.length := by omega
      obtain ⟨z, hz1, hz2, _, _⟩ := hZ.out.at32 (i := ys.length) (by omega) hI.out.2.1
      have hd := hI.out.done (by decide) (by omega) (show cc < B32 by simp only [B32]; omega)
      have hb := hZ.out.set32 ys.length cc cc rfl
      go_wp2_with fail
      refine (trim_calls _ _ _ 58 0 (zs.set ys.length cc) _ (by simpa using hzl) (u32all hb hd.2) (by simp; omega) (Nat.le_refl _)).mono ?_
      rintro e w' ⟨rfl, rfl⟩
      have HH := Lib.hid (mRd_trim (base := b2) hb hd.2 (by simpa using hzl) (Nat.le_refl _) hd.1)
      clear hb hd
      go_wp2
      go_ret
      exact ⟨_, rfl, by rw [Nat.add_comm]; exact HH.out, hW.out.setCell (Nat.le_refl _) _⟩

theorem plus_calls (A B : Option Addr) (n m ca cb t1 t2 base b2 b3 : Nat) (xs ys : List Nat) (w : World) (hn : xs.length = n) (hm : ys.length = m) (hA : u32.Row t1 w base A xs) (hB : u32.Row t2 w b3 B ys)
    (hx : n ≤ 1099511627776) (hy : m ≤ 1099511627776) :
    Calls Tryz.prog 73 #[.slice A n ca, .slice B m cb] w fun e w' => ∃ v, e = .returned v ∧ mRd.R w' b2 (val B32 xs + val B32 ys) [v] ∧ Below w.heap.size w w' := by
  rcases Nat.lt_or_ge n m with h | h
  · exact plus_lt A B n m ca cb t1 t2 base b2 b3 xs ys w hn hm hA hB h hy
  · exact plus_ge A B n m ca cb t1 t2 base b2 b3 xs ys w hn hm hA hB h hx

set_option maxHeartbeats 1000000 in
theorem minus_calls (A B : Option Addr) (n m ca cb t1 t2 base b2 b3 : Nat) (xs ys : List Nat) (w : World) (hn : xs.length = n) (hm : ys.length = m) (hA : u32.Row t1 w base A xs) (hB : u32.Row t2 w b3 B ys)
    (hl : m ≤ n) (hx : n ≤ 1099511627776) (hle : val B32 ys ≤ val B32 xs) :
    Calls Tryz.prog 75 #[.slice A n ca, .slice B m cb] w fun e w' => ∃ v, e = .returned v ∧ mRd.R w' b2 (val B32 xs - val B32 ys) [v] ∧ Below w.heap.size w w' := by
  subst hn hm
  have hm := fun W => make32 (n := xs.length) W (by omega)
  have HLE := Lib.hid hle
  clear hle
  go_enter Tryz.func75, Tryz.ntmps75
  go_wp2
  clear hm
  go_loopw [6, 7] (fun c i wr => ∃ (k cc : Nat) (zs : List Nat), i = .int .i64 k ∧ c = .int .u64 cc ∧ cc ≤ 1 ∧ k ≤ xs.length ∧ Hid (MinusInv B32 xs ys k cc zs) ∧ Hid (Blk wr w.heap.size 58 (i32s zs)) ∧ Hid (Below w.heap.size w wr)) (fun _ i _ => xs.length - (intOf i).toNat)
  case atStart => exact ⟨0, 0, _, rfl, rfl, by omega, by omega, MinusInv.start _ (by decide) _ _, by rw [← made32]; exact Blk.new _ _ _, below_new (Below.refl _ _) _⟩
  case round =>
    obtain ⟨k, cc, zs, rfl, rfl, hc1, hk, hI, hZ, hW⟩ := hrel
    have hzl := hI.out.1
    by_cases hlt : k < xs.length
    · obtain ⟨a, x, rfl, hca, hxb, hx⟩ := u32at (hA.below hW.out) hlt
      obtain ⟨z, hz1, hz2, _, _⟩ := hZ.out.at32 (i := k) (by omega) hI.out.2.1
      by_cases hlt2 : k < ys.length
      · obtain ⟨b, y, rfl, hcb, hyb, hy⟩ := u32at (hB.below hW.out) hlt2
        by_cases hb : x < cc + y
        · go_wp2
          go_roundw
          case rel => exact ⟨k + 1, 1, _, by go_num, rfl, by omega, by omega, MinusInv.step (s := cc + y) (z := x + 4294967296 - (cc + y)) (by decide) hI.out hlt (by rw [hy.out]) (by simp only [B32]; omega) (by omega) (by rw [hx.out]; simp only [B32]; omega), hZ.out.set32 _ _ _ (by omega), hW.out.setCell (Nat.le_refl _) _⟩
          case measure => simp [intOf]; omega
        · go_wp2
          go_roundw
          case rel => exact ⟨k + 1, 0, _, by go_num, rfl, by omega, by omega, MinusInv.step (s := cc + y) (z := x - (cc + y)) (by decide) hI.out hlt (by rw [hy.out]) (by simp only [B32]; omega) (by omega) (by rw [hx.out]; omega), hZ.out.set32 _ _ _ (by omega), hW.out.setCell (Nat.le_refl _) _⟩
          case measure => simp [intOf]; omega
      · by_cases hb : x < cc
        · go_wp2
          go_roundw
          case rel => exact ⟨k + 1, 1, _, by go_num, rfl, by omega, by omega, MinusInv.step (s := cc) (z := x + 4294967296 - cc) (by decide) hI.out hlt (by rw [getD_ge (by omega)]; rfl) (by simp only [B32]; omega) (by omega) (by rw [hx.out]; simp only [B32]; omega), hZ.out.set32 _ _ _ (by omega), hW.out.setCell (Nat.le_refl _) _⟩
          case measure => simp [intOf]; omega
        · go_wp2
          go_roundw
          case rel => exact ⟨k + 1, 0, _, by go_num, rfl, by omega, by omega, MinusInv.step (s := cc) (z := x - cc) (by decide) hI.out hlt (by rw [getD_ge (by omega)]; rfl) (by simp only [B32]; omega) (by omega) (by rw [hx.out]; omega), hZ.out.set32 _ _ _ (by omega), hW.out.setCell (Nat.le_refl _) _⟩
          case measure => simp [intOf]; omega
    · obtain rfl : k = xs.length := by omega
      go_wp2_with fail
      refine (trim_calls _ _ _ 58 0 zs _ hzl (u32all hZ.out hI.out.2.1) (by omega) (Nat.le_refl _)).mono ?_
      rintro e w' ⟨rfl, rfl⟩
      have HH := Lib.hid (mRd_trim (base := b2) hZ.out hI.out.2.1 hzl (Nat.le_refl _) (hI.out.done (by decide) hl HLE.out))
      go_wp2
      go_ret
      exact ⟨_, rfl, HH.out, hW.out⟩

/-! cmp -/
def cmpN (x y : Nat) : Int := if x < y then -1 else if y < x then 1 else 0
theorem cmpN_lt {x y : Nat} (h : x < y) : cmpN x y = -1 := by unfold cmpN; rw [if_pos h]
theorem cmpN_gt {x y : Nat} (h : y < x) : cmpN x y = 1 := by unfold cmpN; rw [if_neg (by omega), if_pos h]
theorem cmpN_eq (x : Nat) : cmpN x x = 0 := by unfold cmpN; rw [if_neg (by omega), if_neg (by omega)]
theorem top_lt {B : Nat} {xs ys : List Nat} {k : Nat} (hB : 0 < B) (hx : ∀ d ∈ xs, d < B) (h1 : k < xs.length) (h2 : k < ys.length) (h : xs.getD k 0 < ys.getD k 0) : val B (xs.take (k + 1)) < val B (ys.take (k + 1)) := by
  rw [val_take B h1, val_take B h2]
  have := val_lt hB (xs.take k) (fun d hd => hx d (List.mem_of_mem_take hd))
  rw [List.length_take, Nat.min_eq_left (by omega)] at this
  have h3 := Nat.mul_le_mul_left (B ^ k) h
  rw [Nat.mul_succ] at h3
  omega
theorem cmp_top {B : Nat} {xs ys : List Nat} {k : Nat} (h1 : k < xs.length) (h2 : k < ys.length) (h : xs.getD k 0 = ys.getD k 0) : cmpN (val B (xs.take (k + 1))) (val B (ys.take (k + 1))) = cmpN (val B (xs.take k)) (val B (ys.take k)) := by
  rw [val_take B h1, val_take B h2, h]
  unfold cmpN
  simp only [Nat.add_lt_add_iff_right]
set_option maxHeartbeats 1000000 in
theorem cmp_calls (A B : Option Addr) (n m ca cb t1 t2 base b3 : Nat) (xs ys : List Nat) (w : World) (hn : xs.length = n) (hm : ys.length = m) (hA : u32.Row t1 w base A xs) (hB : u32.Row t2 w b3 B ys)
    (hx : n ≤ 1099511627776) (hy : m ≤ 1099511627776) (tx : Trimmed xs) (ty : Trimmed ys) :
    Calls Tryz.prog 74 #[.slice A n ca, .slice B m cb] w fun e w' => e = .returned (.int .i64 (cmpN (val B32 xs) (val B32 ys))) ∧ ∃ q, w' = w.drewN q := by
  subst hn hm
  have hbx := u32bd hA
  have hby := u32bd hB
  rcases Nat.lt_trichotomy xs.length ys.length with h | h | h
  · rw [cmpN_lt (val_lt_of_len (by decide) hbx ty h)]
    clear hbx hby tx ty
    go_enter Tryz.func74, Tryz.ntmps74
    go_wp2
    go_ret
    exact ⟨rfl, 0, rfl⟩
  · have HX := Lib.hid hbx
    have HY := Lib.hid hby
    clear hbx hby tx ty
    have he : (xs.length == ys.length) = true := by simpa using h
    have HE := Lib.hid h
    clear h
    have hg : ((xs.length : Int) != (ys.length : Int)) = false := by rw [HE.out]; simp
    go_enter Tryz.func74, Tryz.ntmps74
    go_wp2
    go_loopw [5] (fun i wr => ∃ (k : Nat), i = .int .i64 ((k : Int) - 1) ∧ k ≤ xs.length ∧ Hid (cmpN (val B32 (xs.take k)) (val B32 (ys.take k)) = cmpN (val B32 xs) (val B32 ys)) ∧ Hid (∃ q, wr = w.drewN q)) (fun i _ => (intOf i + 1).toNat)
    case atStart => exact ⟨_, rfl, Nat.le_refl _, by rw [List.take_of_length_le (Nat.le_refl _), List.take_of_length_le (Nat.le_of_eq HE.out.symm)]; rfl, ⟨0, rfl⟩⟩
    case round =>
      obtain ⟨k, rfl, hk, hI, hQ⟩ := hrel
      obtain ⟨q, rfl⟩ := hQ.out
      cases k with
      | zero =>
        go_wp2
        go_ret
        exact ⟨ret_int' (by rw [← hI.out]; rfl), q, rfl⟩
      | succ k =>
        have hD : Below w.heap.size w (w.drewN q) := below_drewN (Below.refl _ _) q
        obtain ⟨a, x, rfl, hca, hxb, hxe⟩ := u32at hA (i := k) (by omega)
        obtain ⟨b, y, rfl, hcb, hyb, hye⟩ := u32at hB (i := k) (by have := HE.out; omega)
        have hlk : (k : Int) < (ys.length : Int) := by have := HE.out; omega
        have hlx : (k : Int) < (xs.length : Int) := by omega
        have hl0 : (0 : Int) ≤ (k : Int) := by omega
        rcases Nat.lt_trichotomy x y with h | h | h
        · go_wp2
          go_quiet (fail)
          go_wp2
          go_ret
          exact ⟨ret_int' (by rw [← hI.out, cmpN_lt (top_lt (by decide) HX.out (by omega) (by have := HE.out; omega) (by rw [hxe.out, hye.out]; exact h))]), _, drewN_drewN _ _ _⟩
        · subst h
          go_wp2
          go_quiet (fail)
          go_wp2
          go_quiet (fail)
          go_wp2
          go_roundw
          case rel => exact ⟨k, by go_num, by omega, (cmp_top (by omega) (by have := HE.out; omega) (by rw [hxe.out, hye.out])).symm.trans hI.out, ⟨_, rfl⟩⟩
          case measure => simp [intOf]
        · go_wp2
          go_quiet (fail)
          go_wp2
          go_quiet (fail)
          go_wp2
          go_ret
          exact ⟨ret_int' (by rw [← hI.out, cmpN_gt (top_lt (by decide) HY.out (by have := HE.out; omega) (by omega) (by rw [hxe.out, hye.out]; exact h))]), _, by simp only [drewN_drewN]; rfl⟩
  · rw [cmpN_gt (val_lt_of_len (by decide) hby tx h)]
    clear hbx hby tx ty
    go_enter Tryz.func74, Tryz.ntmps74
    go_wp2
    go_ret
    exact ⟨rfl, 0, rfl⟩
end Go.Proofs.YtikdhkmcdmnadaaGreatFmt

namespace Go.Proofs.YtikdhkmcdmnadaaGreatFmt
open Go.RowKit

theorem wrap_shl {x r : Nat} (hx : x < 4294967296) (hr : r < 32) : IntKind.u64.wrap ((x : Int) * 2 ^ r) = ((x * 2 ^ r : Nat) : Int) := by
  have h := (shl_bounds hx hr).1
  have e : (x : Int) * 2 ^ r = ((x * 2 ^ r : Nat) : Int) := by simp [Int.natCast_mul, Int.natCast_pow]
  rw [e, IntKind.wrap_u64]
  generalize x * 2 ^ r = q at *
  omega
theorem or_shl_low {z x r : Nat} (hx : x < 4294967296) (hr : r < 32) (hz : z < 2 ^ r) :
    bits .or .u32 (z : Int) (IntKind.u64.wrap ((x : Int) * 2 ^ r) % 4294967296) = ((z + x * 2 ^ r % 4294967296 : Nat) : Int) := by
  have h := shl_bounds hx hr
  rw [wrap_shl hx hr, show ((x * 2 ^ r : Nat) : Int) % 4294967296 = ((x * 2 ^ r % 4294967296 : Nat) : Int) from by omega, u32_or_nat _ _ (by omega) (Nat.mod_lt _ (by decide)), or_add_low hz (shl_low hr)]
theorem or_shl_high {x r : Nat} (hx : x < 4294967296) (hr : r < 32) :
    bits .or .u32 ((0 : Nat) : Int) (IntKind.u64.wrap ((x : Int) * 2 ^ r) / 4294967296 % 4294967296) = ((x * 2 ^ r / 4294967296 : Nat) : Int) := by
  have h := shl_bounds hx hr
  rw [wrap_shl hx hr, show ((x * 2 ^ r : Nat) : Int) / 4294967296 % 4294967296 = ((x * 2 ^ r / 4294967296 : Nat) : Int) from by omega, u32_or_nat _ _ (by omega) (by omega), Nat.zero_or]

set_option maxHeartbeats 1000000 in
theorem left_pos (A : Option Addr) (m ca t1 base b2 n : Nat) (xs : List Nat) (w : World) (hn : xs.length = m) (hA : u32.Row t1 w base A xs)
    (hx : 0 < m) (hx2 : m ≤ 1099511627776) (hs : n ≤ 1099511627776) :
    Calls Tryz.prog 54 #[.slice A m ca, .int .i64 n] w fun e w' => ∃ v, e = .returned v ∧ mRd.R w' b2 (val B32 xs * 2 ^ n) [v] ∧ Below w.heap.size w w' := by
  subst hn
  have hm := fun W => make32 (n := xs.length + n / 32 + 1) W (by omega)
  simp only [Int.natCast_add, Int.cast_ofNat_Int, Int.natCast_ediv] at hm
  have h0 : ((xs.length : Int) == 0) = false := by simp; intro e; rw [e] at hx; simp at hx
  have hr : n % 32 < 32 := Nat.mod_lt _ (by decide)
  go_enter Tryz.func54, Tryz.ntmps54
  go_wp2
  clear hm
  go_loopw [6] (fun i wr => ∃ (k : Nat) (zs : List Nat), i = .int .i64 k ∧ k ≤ xs.length ∧ Hid (LeftInv B32 xs (n / 32) (n % 32) k zs) ∧ Hid (Blk wr w.heap.size 58 (i32s zs)) ∧ Hid (Below w.heap.size w wr)) (fun i _ => xs.length - (intOf i).toNat)
  case atStart => exact ⟨0, _, rfl, by omega, LeftInv.start _ (by decide) _ _ _, by rw [← made32]; exact Blk.new _ _ _, below_new (Below.refl _ _) _⟩
  case round =>
    obtain ⟨k, zs, rfl, hk, hI, hZ, hW⟩ := hrel
    have hzl := hI.out.1
    by_cases hlt : k < xs.length
    · obtain ⟨a, x, rfl, hca, hxb, hxe⟩ := u32at (hA.below hW.out) hlt
      obtain ⟨z, hz1, hz2, hzz, hze⟩ := hZ.out.at32 (i := k + n / 32) (by omega) hI.out.2.1
      obtain ⟨y, hy1, hy2, hyz, hye⟩ := hZ.out.at32 (i := k + n / 32 + 1) (by omega) hI.out.2.1
      obtain rfl : y = 0 := by rw [← hye.out]; exact hI.out.2.2.2.1 _ (by omega)
      have HZ : Hid (z < 2 ^ (n % 32)) := by have := hI.out.2.2.2.2; rw [hze.out] at this; exact this
      go_wp2
      go_roundw
      case rel =>
        have hsb := shl_bounds hxb hr
        exact ⟨k + 1, _, by go_num, by omega, LeftInv.step (x := x) (z := z) (by decide) hI.out hlt hxe.out hze.out rfl rfl (low_lt hr HZ.out) rfl (by simp only [B32]; omega) hsb.2.1, (hZ.out.set32 _ _ _ (or_shl_low hxb hr HZ.out)).set32 _ _ _ (or_shl_high hxb hr), (hW.out.setCell (Nat.le_refl _) _).setCell (Nat.le_refl _) _⟩
      case measure => simp [intOf]; omega
    · obtain rfl : k = xs.length := by omega
      have hd := hI.out.done
      rw [left_num] at hd
      go_wp2_with fail
      refine (trim_calls _ _ _ 58 0 zs _ hzl (u32all hZ.out hI.out.2.1) (by omega) (Nat.le_refl _)).mono ?_
      rintro e w' ⟨rfl, rfl⟩
      have HH := Lib.hid (mRd_trim (base := b2) hZ.out hI.out.2.1 hzl (Nat.le_refl _) hd)
      clear hd
      go_wp2
      go_ret
      exact ⟨_, rfl, HH.out, hW.out⟩
theorem mRd_nil (w : World) (base : Nat) (A : Option Addr) (c : Nat) : mRd.R w base 0 [.slice A 0 c] := ⟨[], A, c, rfl, Nat.zero_le _, Rd.Row.nil _ _ _ _ _, .inl rfl, rfl⟩
set_option maxHeartbeats 400000 in
theorem left_calls (A : Option Addr) (m ca t1 base b2 n : Nat) (xs : List Nat) (w : World) (hn : xs.length = m) (hA : u32.Row t1 w base A xs)
    (hx2 : m ≤ 1099511627776) (hs : n ≤ 1099511627776) :
    Calls Tryz.prog 54 #[.slice A m ca, .int .i64 n] w fun e w' => ∃ v, e = .returned v ∧ mRd.R w' b2 (val B32 xs * 2 ^ n) [v] ∧ Below w.heap.size w w' := by
  rcases Nat.eq_zero_or_pos m with h | h
  · subst h
    obtain rfl := List.length_eq_zero_iff.1 hn
    go_enter Tryz.func54, Tryz.ntmps54
    go_wp2
    go_ret
    exact ⟨_, rfl, by simp only [val, Nat.zero_mul]; exact mRd_nil _ _ _ _, Below.refl _ _⟩
  · exact left_pos A m ca t1 base b2 n xs w hn hA h hx2 hs

theorem times_sum {c x y o : Nat} (hc : c < 4294967296) (hx : x < 4294967296) (hy : y < 4294967296) (ho : o < 4294967296) :
    IntKind.u64.wrap (IntKind.u64.wrap ((c : Int) + IntKind.u64.wrap ((x : Int) * (y : Int))) + (o : Int)) = ((c + x * y + o : Nat) : Int) ∧ (c + x * y + o) / 4294967296 < 4294967296 := by
  have h := times_bd hx hy
  rw [← Int.natCast_mul]
  generalize x * y = p at *
  rw [IntKind.wrap_u64, IntKind.wrap_u64, IntKind.wrap_u64]
  omega
end Go.Proofs.YtikdhkmcdmnadaaGreatFmt
