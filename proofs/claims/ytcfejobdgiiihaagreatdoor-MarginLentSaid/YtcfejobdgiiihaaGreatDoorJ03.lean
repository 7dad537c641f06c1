/- Walks and plain laws of this seat's functions, part 3: R2a R2b R2c R2d R2e. -/
import Derived.Test.YtcfejobdgiiihaaGreatDoorJ00
set_option linter.unusedVariables false
set_option linter.unusedSimpArgs false
namespace Go.Proofs.YtcfejobdgiiihaaGreatDoor
open Go.RowKit

/-! ### ambitref2: whole numbers as words of 32 bits -/
set_option maxHeartbeats 400000 in
theorem trim_calls (A : Option Addr) (n c t base : Nat) (xs : List Nat) (w : World) (hn : xs.length = n) (hA : u32.Row t w base A xs) (hl : xs.length ≤ 4398046511104) (hc : n ≤ c) :
    Calls Tryz.prog 66 #[.slice A n c] w fun e w' => e = .returned (.slice A (trimLen xs n) c) ∧ w = w' := by
  subst hn
  go_enter Tryz.func66, Tryz.ntmps66
  go_wp2
  go_loop [3] (fun i => ∃ k : Nat, k ≤ xs.length ∧ i = .int .i64 k ∧ Hid (trimLen xs k = trimLen xs xs.length)) (fun i => (intOf i).toNat)
  case atStart => exact ⟨_, Nat.le_refl _, rfl, rfl⟩
  case round =>
    obtain ⟨k, hk, rfl, hT⟩ := hrel
    cases k with
    | zero =>
      go_wp2
      go_ret
      exact ⟨ret_slice (by rw [← hT.out]; rfl), rfl⟩
    | succ k =>
      obtain ⟨a, x, rfl, hca, hx, hxe⟩ := u32at hA (i := k) (by omega)
      by_cases h0 : x = 0
      · subst h0
        go_wp2
        go_round
        case rel => exact ⟨k, by omega, by go_num, (trimLen_zero hxe.out).symm.trans hT.out⟩
        case measure => simp [intOf]
      · go_wp2
        go_ret
        exact ⟨ret_slice (by rw [← hT.out, trimLen_pos (by rw [hxe.out]; exact h0)]), rfl⟩

set_option maxHeartbeats 1000000 in
theorem plus_ge (A B : Option Addr) (n m ca cb t1 t2 base b2 b3 : Nat) (xs ys : List Nat) (w : World) (hn : xs.length = n) (hm : ys.length = m) (hA : u32.Row t1 w base A xs) (hB : u32.Row t2 w b3 B ys)
    (hl : m ≤ n) (hx : n ≤ 1099511627776) :
    Calls Tryz.prog 60 #[.slice A n ca, .slice B m cb] w fun e w' => ∃ v, e = .returned v ∧ mRd.R w' b2 (val B32 xs + val B32 ys) [v] ∧ Below w.heap.size w w' := by
  subst hn hm
  have hm := fun W => make32 (n := xs.length + 1) W (by omega)
  simp only [Int.natCast_add, Int.cast_ofNat_Int] at hm
  go_enter Tryz.func60, Tryz.ntmps60
  go_wp2
  clear hm
  go_loopw [6, 7] (fun c i wr => ∃ (k cc : Nat) (zs : List Nat), i = .int .i64 k ∧ c = .int .u64 cc ∧ cc ≤ 1 ∧ k ≤ xs.length ∧ Hid (PlusInv B32 xs ys k cc zs) ∧ Hid (Blk wr w.heap.size 113 (i32s zs)) ∧ Hid (Below w.heap.size w wr)) (fun _ i _ => xs.length - (intOf i).toNat)
  case atStart => exact ⟨0, 0, _, rfl, rfl, by omega, by omega, PlusInv.start _ (by decide) _ _, by rw [← made32]; exact Blk.new _ _ _, below_new (Below.refl _ _) _⟩
  case round =>
    obtain ⟨k, cc, zs, rfl, rfl, hc1, hk, hI, hZ, hW⟩ := hrel
    have hzl := hI.out.1
    by_cases hlt : k < xs.length
    · obtain ⟨a, x, rfl, hca, hxb, hx⟩ := u32at (hA.below hW.out) hlt
      obtain ⟨z, hz1, hz2, _, _⟩ := hZ.out.at32 (i := k) (by omega) hI.out.2.1
      by_cases hlt2 : k < ys.length
      · obtain ⟨b, y, rfl, hcb, hyb, hy⟩ := u32at (hB.below hW.out) hlt2
        go_wp2
        go_roundw
        case rel => exact ⟨k + 1, _, _, by go_num, by go_num, by simp only [B32]; omega, by omega, PlusInv.step (s := cc + x + y) (by decide) hI.out hlt (by rw [hx.out, hy.out]), hZ.out.set32 _ _ _ (by rfl), hW.out.setCell (Nat.le_refl _) _⟩
        case measure => simp [intOf]; omega
      · go_wp2
        go_roundw
        case rel => exact ⟨k + 1, _, _, by go_num, by go_num, by simp only [B32]; omega, by omega, PlusInv.step (s := cc + x) (by decide) hI.out hlt (by rw [hx.out, getD_ge (by omega)]; rfl), hZ.out.set32 _ _ _ (by rfl), hW.out.setCell (Nat.le_refl _) _⟩
        case measure => simp [intOf]; omega
    · obtain rfl : k = xs.length := by omega
      obtain ⟨z, hz1, hz2, _, _⟩ := hZ.out.at32 (i := xs.length) (by omega) hI.out.2.1
      have hd := hI.out.done (by decide) (by omega) (show cc < B32 by simp only [B32]; omega)
      have hb := hZ.out.set32 xs.length cc cc rfl
      go_wp2_with fail
      refine (trim_calls _ _ _ 113 0 (zs.set xs.length cc) _ (by simpa using hzl) (u32all hb hd.2) (by simp; omega) (Nat.le_refl _)).mono ?_
      rintro e w' ⟨rfl, rfl⟩
      have HH := Lib.hid (mRd_trim (base := b2) hb hd.2 (by simpa using hzl) (Nat.le_refl _) hd.1)
      clear hb hd
      go_wp2
      go_ret
      exact ⟨_, rfl, HH.out, hW.out.setCell (Nat.le_refl _) _⟩

set_option maxHeartbeats 1000000 in
theorem plus_lt (A B : Option Addr) (n m ca cb t1 t2 base b2 b3 : Nat) (xs ys : List Nat) (w : World) (hn : xs.length = n) (hm : ys.length = m) (hA : u32.Row t1 w base A xs) (hB : u32.Row t2 w b3 B ys)
    (hl : n < m) (hx : m ≤ 1099511627776) :
    Calls Tryz.prog 60 #[.slice A n ca, .slice B m cb] w fun e w' => ∃ v, e = .returned v ∧ mRd.R w' b2 (val B32 xs + val B32 ys) [v] ∧ Below w.heap.size w w' := by
  subst hn hm
  have hm := fun W => make32 (n := ys.length + 1) W (by omega)
  simp only [Int.natCast_add, Int.cast_ofNat_Int] at hm
  go_enter Tryz.func60, Tryz.ntmps60
  go_wp2
  clear hm
  go_loopw [6, 7] (fun c i wr => ∃ (k cc : Nat) (zs : List Nat), i = .int .i64 k ∧ c = .int .u64 cc ∧ cc ≤ 1 ∧ k ≤ ys.length ∧ Hid (PlusInv B32 ys xs k cc zs) ∧ Hid (Blk wr w.heap.size 113 (i32s zs)) ∧ Hid (Below w.heap.size w wr)) (fun _ i _ => ys.length - (intOf i).toNat)
  case atStart => exact ⟨0, 0, _, rfl, rfl, by omega, by omega, PlusInv.start _ (by decide) _ _, by rw [← made32]; exact Blk.new _ _ _, below_new (Below.refl _ _) _⟩
  case round =>
    obtain ⟨k, cc, zs, rfl, rfl, hc1, hk, hI, hZ, hW⟩ := hrel
    have hzl := hI.out.1
    by_cases hlt : k < ys.length
    · obtain ⟨a, x, rfl, hca, hxb, hx⟩ := u32at (hB.below hW.out) hlt
      obtain ⟨z, hz1, hz2, _, _⟩ := hZ.out.at32 (i := k) (by omega) hI.out.2.1
      by_cases hlt2 : k < xs.length
      · obtain ⟨b, y, rfl, hcb, hyb, hy⟩ := u32at (hA.below hW.out) hlt2
        go_wp2
        go_roundw
        case rel => exact ⟨k + 1, _, _, by go_num, by go_num, by simp only [B32]; omega, by omega, PlusInv.step (s := cc + x + y) (by decide) hI.out hlt (by rw [hx.out, hy.out]), hZ.out.set32 _ _ _ (by rfl), hW.out.setCell (Nat.le_refl _) _⟩
        case measure => simp [intOf]; omega
      · go_wp2
        go_roundw
        case rel => exact ⟨k + 1, _, _, by go_num, by go_num, by simp only [B32]; omega, by omega, PlusInv.step (s := cc + x) (by decide) hI.out hlt (by rw [hx.out, getD_ge (by omega)]; rfl), hZ.out.set32 _ _ _ (by rfl), hW.out.setCell (Nat.le_refl _) _⟩
        case measure => simp [intOf]; omega
    · obtain rfl : k = ys.length := by omega
      obtain ⟨z, hz1, hz2, _, _⟩ := hZ.out.at32 (i := ys.length) (by omega) hI.out.2.1
      have hd := hI.out.done (by decide) (by omega) (show cc < B32 by simp only [B32]; omega)
      have hb := hZ.out.set32 ys.length cc cc rfl
      go_wp2_with fail
      refine (trim_calls _ _ _ 113 0 (zs.set ys.length cc) _ (by simpa using hzl) (u32all hb hd.2) (by simp; omega) (Nat.le_refl _)).mono ?_
      rintro e w' ⟨rfl, rfl⟩
      have HH := Lib.hid (mRd_trim (base := b2) hb hd.2 (by simpa using hzl) (Nat.le_refl _) hd.1)
      clear hb hd
      go_wp2
      go_ret
      exact ⟨_, rfl, by rw [Nat.add_comm]; exact HH.out, hW.out.setCell (Nat.le_refl _) _⟩

theorem plus_calls (A B : Option Addr) (n m ca cb t1 t2 base b2 b3 : Nat) (xs ys : List Nat) (w : World) (hn : xs.length = n) (hm : ys.length = m) (hA : u32.Row t1 w base A xs) (hB : u32.Row t2 w b3 B ys)
    (hx : n ≤ 1099511627776) (hy : m ≤ 1099511627776) :
    Calls Tryz.prog 60 #[.slice A n ca, .slice B m cb] w fun e w' => ∃ v, e = .returned v ∧ mRd.R w' b2 (val B32 xs + val B32 ys) [v] ∧ Below w.heap.size w w' := by
  rcases Nat.lt_or_ge n m with h | h
  · exact plus_lt A B n m ca cb t1 t2 base b2 b3 xs ys w hn hm hA hB h hy
  · exact plus_ge A B n m ca cb t1 t2 base b2 b3 xs ys w hn hm hA hB h hx

set_option maxHeartbeats 1000000 in
theorem minus_calls (A B : Option Addr) (n m ca cb t1 t2 base b2 b3 : Nat) (xs ys : List Nat) (w : World) (hn : xs.length = n) (hm : ys.length = m) (hA : u32.Row t1 w base A xs) (hB : u32.Row t2 w b3 B ys)
    (hl : m ≤ n) (hx : n ≤ 1099511627776) (hle : val B32 ys ≤ val B32 xs) :
    Calls Tryz.prog 62 #[.slice A n ca, .slice B m cb] w fun e w' => ∃ v, e = .returned v ∧ mRd.R w' b2 (val B32 xs - val B32 ys) [v] ∧ Below w.heap.size w w' := by
  subst hn hm
  have hm := fun W => make32 (n := xs.length) W (by omega)
  have HLE := Lib.hid hle
  clear hle
  go_enter Tryz.func62, Tryz.ntmps62
  go_wp2
  clear hm
  go_loopw [6, 7] (fun c i wr => ∃ (k cc : Nat) (zs : List Nat), i = .int .i64 k ∧ c = .int .u64 cc ∧ cc ≤ 1 ∧ k ≤ xs.length ∧ Hid (MinusInv B32 xs ys k cc zs) ∧ Hid (Blk wr w.heap.size 113 (i32s zs)) ∧ Hid (Below w.heap.size w wr)) (fun _ i _ => xs.length - (intOf i).toNat)
  case atStart => exact ⟨0, 0, _, rfl, rfl, by omega, by omega, MinusInv.start _ (by decide) _ _, by rw [← made32]; exact Blk.new _ _ _, below_new (Below.refl _ _) _⟩
  case round =>
    obtain ⟨k, cc, zs, rfl, rfl, hc1, hk, hI, hZ, hW⟩ := hrel
    have hzl := hI.out.1
    by_cases hlt : k < xs.length
    · obtain ⟨a, x, rfl, hca, hxb, hx⟩ := u32at (hA.below hW.out) hlt
      obtain ⟨z, hz1, hz2, _, _⟩ := hZ.out.at32 (i := k) (by omega) hI.out.2.1
      by_cases hlt2 : k < ys.length
      · obtain ⟨b, y, rfl, hcb, hyb, hy⟩ := u32at (hB.below hW.out) hlt2
        by_cases hb : x < cc + y
        · go_wp2
          go_roundw
          case rel => exact ⟨k + 1, 1, _, by go_num, rfl, by omega, by omega, MinusInv.step (s := cc + y) (z := x + 4294967296 - (cc + y)) (by decide) hI.out hlt (by rw [hy.out]) (by simp only [B32]; omega) (by omega) (by rw [hx.out]; simp only [B32]; omega), hZ.out.set32 _ _ _ (by omega), hW.out.setCell (Nat.le_refl _) _⟩
          case measure => simp [intOf]; omega
        · go_wp2
          go_roundw
          case rel => exact ⟨k + 1, 0, _, by go_num, rfl, by omega, by omega, MinusInv.step (s := cc + y) (z := x - (cc + y)) (by decide) hI.out hlt (by rw [hy.out]) (by simp only [B32]; omega) (by omega) (by rw [hx.out]; omega), hZ.out.set32 _ _ _ (by omega), hW.out.setCell (Nat.le_refl _) _⟩
          case measure => simp [intOf]; omega
      · by_cases hb : x < cc
        · go_wp2
          go_roundw
          case rel => exact ⟨k + 1, 1, _, by go_num, rfl, by omega, by omega, MinusInv.step (s := cc) (z := x + 4294967296 - cc) (by decide) hI.out hlt (by rw [getD_ge (by omega)]; rfl) (by simp only [B32]; omega) (by omega) (by rw [hx.out]; simp only [B32]; omega), hZ.out.set32 _ _ _ (by omega), hW.out.setCell (Nat.le_refl _) _⟩
          case measure => simp [intOf]; omega
        · go_wp2
          go_roundw
          case rel => exact ⟨k + 1, 0, _, by go_num, rfl, by omega, by omega, MinusInv.step (s := cc) (z := x - cc) (by decide) hI.out hlt (by rw [getD_ge (by omega)]; rfl) (by simp only [B32]; omega) (by omega) (by rw [hx.out]; omega), hZ.out.set32 _ _ _ (by omega), hW.out.setCell (Nat.le_refl _) _⟩
          case measure => simp [intOf]; omega
    · obtain rfl : k = xs.length := by omega
      go_wp2_with fail
      refine (trim_calls _ _ _ 113 0 zs _ hzl (u32all hZ.out hI.out.2.1) (by omega) (Nat.le_refl _)).mono ?_
      rintro e w' ⟨rfl, rfl⟩
      have HH := Lib.hid (mRd_trim (base := b2) hZ.out hI.out.2.1 hzl (Nat.le_refl _) (hI.out.done (by decide) hl HLE.out))
      go_wp2
      go_ret
      exact ⟨_, rfl, HH.out, hW.out⟩

/-! cmp -/
def cmpN (x y : Nat) : Int := if x < y then -1 else if y < x then 1 else 0
theorem cmpN_lt {x y : Nat} (h : x < y) : cmpN x y = -1 := by unfold cmpN; rw [if_pos h]
theorem cmpN_gt {x y : Nat} (h : y < x) : cmpN x y = 1 := by unfold cmpN; rw [if_neg (by omega), if_pos h]
theorem cmpN_eq (x : Nat) : cmpN x x = 0 := by unfold cmpN; rw [if_neg (by omega), if_neg (by omega)]
theorem top_lt {B : Nat} {xs ys : List Nat} {k : Nat} (hB : 0 < B) (hx : ∀ d ∈ xs, d < B) (h1 : k < xs.length) (h2 : k < ys.length) (h : xs.getD k 0 < ys.getD k 0) : val B (xs.take (k + 1)) < val B (ys.take (k + 1)) := by
  rw [val_take B h1, val_take B h2]
  have := val_lt hB (xs.take k) (fun d hd => hx d (List.mem_of_mem_take hd))
  rw [List.length_take, Nat.min_eq_left (by omega)] at this
  have h3 := Nat.mul_le_mul_left (B ^ k) h
  rw [Nat.mul_succ] at h3
  omega
theorem cmp_top {B : Nat} {xs ys : List Nat} {k : Nat} (h1 : k < xs.length) (h2 : k < ys.length) (h : xs.getD k 0 = ys.getD k 0) : cmpN (val B (xs.take (k + 1))) (val B (ys.take (k + 1))) = cmpN (val B (xs.take k)) (val B (ys.take k)) := by
  rw [val_take B h1, val_take B h2, h]
  unfold cmpN
  simp only [Nat.add_lt_add_iff_right]
set_option maxHeartbeats 1000000 in
theorem cmp_calls (A B : Option Addr) (n m ca cb t1 t2 base b3 : Nat) (xs ys : List Nat) (w : World) (hn : xs.length = n) (hm : ys.length = m) (hA : u32.Row t1 w base A xs) (hB : u32.Row t2 w b3 B ys)
    (hx : n ≤ 1099511627776) (hy : m ≤ 1099511627776) (tx : Trimmed xs) (ty : Trimmed ys) :
    Calls Tryz.prog 61 #[.slice A n ca, .slice B m cb] w fun e w' => e = .returned (.int .i64 (cmpN (val B32 xs) (val B32 ys))) ∧ ∃ q, w' = w.drewN q := by
  subst hn hm
  have hbx := u32bd hA
  have hby := u32bd hB
  rcases Nat.lt_trichotomy xs.length ys.length with h | h | h
  · rw [cmpN_lt (val_lt_of_len (by decide) hbx ty h)]
    clear hbx hby tx ty
    go_enter Tryz.func61, Tryz.ntmps61
    go_wp2
    go_ret
    exact ⟨rfl, 0, rfl⟩
  · have HX := Lib.hid hbx
    have HY := Lib.hid hby
    clear hbx hby tx ty
    have he : (xs.length == ys.length) = true := by simpa using h
    have HE := Lib.hid h
    clear h
    have hg : ((xs.length : Int) != (ys.length : Int)) = false := by rw [HE.out]; simp
    go_enter Tryz.func61, Tryz.ntmps61
    go_wp2
    go_loopw [5] (fun i wr => ∃ (k : Nat), i = .int .i64 ((k : Int) - 1) ∧ k ≤ xs.length ∧ Hid (cmpN (val B32 (xs.take k)) (val B32 (ys.take k)) = cmpN (val B32 xs) (val B32 ys)) ∧ Hid (∃ q, wr = w.drewN q)) (fun i _ => (intOf i + 1).toNat)
    case atStart => exact ⟨_, rfl, Nat.le_refl _, by rw [List.take_of_length_le (Nat.le_refl _), List.take_of_length_le (Nat.le_of_eq HE.out.symm)]; rfl, ⟨0, rfl⟩⟩
    case round =>
      obtain ⟨k, rfl, hk, hI, hQ⟩ := hrel
      obtain ⟨q, rfl⟩ := hQ.out
      cases k with
      | zero =>
        go_wp2
        go_ret
        exact ⟨ret_int' (by rw [← hI.out]; rfl), q, rfl⟩
      | succ k =>
        have hD : Below w.heap.size w (w.drewN q) := below_drewN (Below.refl _ _) q
        obtain ⟨a, x, rfl, hca, hxb, hxe⟩ := u32at hA (i := k) (by omega)
        obtain ⟨b, y, rfl, hcb, hyb, hye⟩ := u32at hB (i := k) (by have := HE.out; omega)
        have hlk : (k : Int) < (ys.length : Int) := by have := HE.out; omega
        have hlx : (k : Int) < (xs.length : Int) := by omega
        have hl0 : (0 : Int) ≤ (k : Int) := by omega
        rcases Nat.lt_trichotomy x y with h | h | h
        · go_wp2
          go_quiet (fail)
          go_wp2
          go_ret
          exact ⟨ret_int' (by rw [← hI.out, cmpN_lt (top_lt (by decide) HX.out (by omega) (by have := HE.out; omega) (by rw [hxe.out, hye.out]; exact h))]), _, drewN_drewN _ _ _⟩
        · subst h
          go_wp2
          go_quiet (fail)
          go_wp2
          go_quiet (fail)
          go_wp2
          go_roundw
          case rel => exact ⟨k, by go_num, by omega, (cmp_top (by omega) (by have := HE.out; omega) (by rw [hxe.out, hye.out])).symm.trans hI.out, ⟨_, rfl⟩⟩
          case measure => simp [intOf]
        · go_wp2
          go_quiet (fail)
          go_wp2
          go_quiet (fail)
          go_wp2
          go_ret
          exact ⟨ret_int' (by rw [← hI.out, cmpN_gt (top_lt (by decide) HY.out (by have := HE.out; omega) (by omega) (by rw [hxe.out, hye.out]; exact h))]), _, by simp only [drewN_drewN]; rfl⟩
  · rw [cmpN_gt (val_lt_of_len (by decide) hby tx h)]
    clear hbx hby tx ty
    go_enter Tryz.func61, Tryz.ntmps61
    go_wp2
    go_ret
    exact ⟨rfl, 0, rfl⟩
end Go.Proofs.YtcfejobdgiiihaaGreatDoor

namespace Go.Proofs.YtcfejobdgiiihaaGreatDoor
open Go.RowKit

theorem wrap_shl {x r : Nat} (hx : x < 4294967296) (hr : r < 32) : IntKind.u64.wrap ((x : Int) * 2 ^ r) = ((x * 2 ^ r : Nat) : Int) := by
  have h := (shl_bounds hx hr).1
  have e : (x : Int) * 2 ^ r = ((x * 2 ^ r : Nat) : Int) := by simp [Int.natCast_mul, Int.natCast_pow]
  rw [e, IntKind.wrap_u64]
  generalize x * 2 ^ r = q at *
  omega
theorem or_shl_low {z x r : Nat} (hx : x < 4294967296) (hr : r < 32) (hz : z < 2 ^ r) :
    bits .or .u32 (z : Int) (IntKind.u64.wrap ((x : Int) * 2 ^ r) % 4294967296) = ((z + x * 2 ^ r % 4294967296 : Nat) : Int) := by
  have h := shl_bounds hx hr
  rw [wrap_shl hx hr, show ((x * 2 ^ r : Nat) : Int) % 4294967296 = ((x * 2 ^ r % 4294967296 : Nat) : Int) from by omega, u32_or_nat _ _ (by omega) (Nat.mod_lt _ (by decide)), or_add_low hz (shl_low hr)]
theorem or_shl_high {x r : Nat} (hx : x < 4294967296) (hr : r < 32) :
    bits .or .u32 ((0 : Nat) : Int) (IntKind.u64.wrap ((x : Int) * 2 ^ r) / 4294967296 % 4294967296) = ((x * 2 ^ r / 4294967296 : Nat) : Int) := by
  have h := shl_bounds hx hr
  rw [wrap_shl hx hr, show ((x * 2 ^ r : Nat) : Int) / 4294967296 % 4294967296 = ((x * 2 ^ r / 4294967296 : Nat) : Int) from by omega, u32_or_nat _ _ (by omega) (by omega), Nat.zero_or]

set_option maxHeartbeats 1000000 in
theorem left_pos (A : Option Addr) (m ca t1 base b2 n : Nat) (xs : List Nat) (w : World) (hn : xs.length = m) (hA : u32.Row t1 w base A xs)
    (hx : 0 < m) (hx2 : m ≤ 1099511627776) (hs : n ≤ 1099511627776) :
    Calls Tryz.prog 91 #[.slice A m ca, .int .i64 n] w fun e w' => ∃ v, e = .returned v ∧ mRd.R w' b2 (val B32 xs * 2 ^ n) [v] ∧ Below w.heap.size w w' := by
  subst hn
  have hm := fun W => make32 (n := xs.length + n / 32 + 1) W (by omega)
  simp only [Int.natCast_add, Int.cast_ofNat_Int, Int.natCast_ediv] at hm
  have h0 : ((xs.length : Int) == 0) = false := by simp; intro e; rw [e] at hx; simp at hx
  have hr : n % 32 < 32 := Nat.mod_lt _ (by decide)
  go_enter Tryz.func91, Tryz.ntmps91
  go_wp2
  clear hm
  go_loopw [6] (fun i wr => ∃ (k : Nat) (zs : List Nat), i = .int .i64 k ∧ k ≤ xs.length ∧ Hid (LeftInv B32 xs (n / 32) (n % 32) k zs) ∧ Hid (Blk wr w.heap.size 113 (i32s zs)) ∧ Hid (Below w.heap.size w wr)) (fun i _ => xs.length - (intOf i).toNat)
  case atStart => exact ⟨0, _, rfl, by omega, LeftInv.start _ (by decide) _ _ _, by rw [← made32]; exact Blk.new _ _ _, below_new (Below.refl _ _) _⟩
  case round =>
    obtain ⟨k, zs, rfl, hk, hI, hZ, hW⟩ := hrel
    have hzl := hI.out.1
    by_cases hlt : k < xs.length
    · obtain ⟨a, x, rfl, hca, hxb, hxe⟩ := u32at (hA.below hW.out) hlt
      obtain ⟨z, hz1, hz2, hzz, hze⟩ := hZ.out.at32 (i := k + n / 32) (by omega) hI.out.2.1
      obtain ⟨y, hy1, hy2, hyz, hye⟩ := hZ.out.at32 (i := k + n / 32 + 1) (by omega) hI.out.2.1
      obtain rfl : y = 0 := by rw [← hye.out]; exact hI.out.2.2.2.1 _ (by omega)
      have HZ : Hid (z < 2 ^ (n % 32)) := by have := hI.out.2.2.2.2; rw [hze.out] at this; exact this
      go_wp2
      go_roundw
      case rel =>
        have hsb := shl_bounds hxb hr
        exact ⟨k + 1, _, by go_num, by omega, LeftInv.step (x := x) (z := z) (by decide) hI.out hlt hxe.out hze.out rfl rfl (low_lt hr HZ.out) rfl (by simp only [B32]; omega) hsb.2.1, (hZ.out.set32 _ _ _ (or_shl_low hxb hr HZ.out)).set32 _ _ _ (or_shl_high hxb hr), (hW.out.setCell (Nat.le_refl _) _).setCell (Nat.le_refl _) _⟩
      case measure => simp [intOf]; omega
    · obtain rfl : k = xs.length := by omega
      have hd := hI.out.done
      rw [left_num] at hd
      go_wp2_with fail
      refine (trim_calls _ _ _ 113 0 zs _ hzl (u32all hZ.out hI.out.2.1) (by omega) (Nat.le_refl _)).mono ?_
      rintro e w' ⟨rfl, rfl⟩
      have HH := Lib.hid (mRd_trim (base := b2) hZ.out hI.out.2.1 hzl (Nat.le_refl _) hd)
      clear hd
      go_wp2
      go_ret
      exact ⟨_, rfl, HH.out, hW.out⟩
theorem mRd_nil (w : World) (base : Nat) (A : Option Addr) (c : Nat) : mRd.R w base 0 [.slice A 0 c] := ⟨[], A, c, rfl, Nat.zero_le _, Rd.Row.nil _ _ _ _ _, .inl rfl, rfl⟩
set_option maxHeartbeats 400000 in
theorem left_calls (A : Option Addr) (m ca t1 base b2 n : Nat) (xs : List Nat) (w : World) (hn : xs.length = m) (hA : u32.Row t1 w base A xs)
    (hx2 : m ≤ 1099511627776) (hs : n ≤ 1099511627776) :
    Calls Tryz.prog 91 #[.slice A m ca, .int .i64 n] w fun e w' => ∃ v, e = .returned v ∧ mRd.R w' b2 (val B32 xs * 2 ^ n) [v] ∧ Below w.heap.size w w' := by
  rcases Nat.eq_zero_or_pos m with h | h
  · subst h
    obtain rfl := List.length_eq_zero_iff.1 hn
    go_enter Tryz.func91, Tryz.ntmps91
    go_wp2
    go_ret
    exact ⟨_, rfl, by simp only [val, Nat.zero_mul]; exact mRd_nil _ _ _ _, Below.refl _ _⟩
  · exact left_pos A m ca t1 base b2 n xs w hn hA h hx2 hs

theorem times_sum {c x y o : Nat} (hc : c < 4294967296) (hx : x < 4294967296) (hy : y < 4294967296) (ho : o < 4294967296) :
    IntKind.u64.wrap (IntKind.u64.wrap ((c : Int) + IntKind.u64.wrap ((x : Int) * (y : Int))) + (o : Int)) = ((c + x * y + o : Nat) : Int) ∧ (c + x * y + o) / 4294967296 < 4294967296 := by
  have h := times_bd hx hy
  rw [← Int.natCast_mul]
  generalize x * y = p at *
  rw [IntKind.wrap_u64, IntKind.wrap_u64, IntKind.wrap_u64]
  omega
set_option maxHeartbeats 2000000 in
theorem times_calls (A B : Option Addr) (n m ca cb t1 t2 base b2 b3 : Nat) (xs ys : List Nat) (w : World) (hn : xs.length = n) (hm : ys.length = m) (hA : u32.Row t1 w base A xs) (hB : u32.Row t2 w b3 B ys)
    (hx : n ≤ 1099511627776) (hy : m ≤ 1099511627776) :
    Calls Tryz.prog 63 #[.slice A n ca, .slice B m cb] w fun e w' => ∃ v, e = .returned v ∧ mRd.R w' b2 (val B32 xs * val B32 ys) [v] ∧ Below w.heap.size w w' := by
  subst hn hm
  have hm := fun W => make32 (n := xs.length + ys.length) W (by omega)
  simp only [Int.natCast_add, Int.cast_ofNat_Int] at hm
  go_enter Tryz.func63, Tryz.ntmps63
  go_wp2
  clear hm
  go_loopw [6] (fun i wr => ∃ (k : Nat) (zs : List Nat), i = .int .i64 k ∧ k ≤ xs.length ∧ Hid (TimesOut B32 xs ys k zs) ∧ Hid (Blk wr w.heap.size 113 (i32s zs)) ∧ Hid (Below w.heap.size w wr)) (fun i _ => xs.length - (intOf i).toNat)
  case atStart => exact ⟨0, _, rfl, by omega, TimesOut.start _ (by decide) _ _, by rw [← made32]; exact Blk.new _ _ _, below_new (Below.refl _ _) _⟩
  case round =>
    obtain ⟨k, zs, rfl, hk, hI, hZ, hW⟩ := hrel
    have hzl := hI.out.1
    by_cases hlt : k < xs.length
    · obtain ⟨a, x, rfl, hca0, hxb, hxe⟩ := u32at hA hlt
      go_wp2
      obtain ⟨wo, rfl⟩ : ∃ wo : World, wo = wr := ⟨_, rfl⟩
      go_loopw [7, 8] (fun c i wr => ∃ (j cc : Nat) (zs : List Nat), i = .int .i64 j ∧ c = .int .u64 cc ∧ j ≤ ys.length ∧ cc < 4294967296 ∧ Hid (TimesIn B32 xs ys k j cc x zs) ∧ Hid (Blk wr w.heap.size 113 (i32s zs)) ∧ Hid (Below w.heap.size w wr)) (fun _ i _ => ys.length - (intOf i).toNat)
      case atStart => exact ⟨0, 0, _, rfl, rfl, by omega, by omega, hI.out.inn (by decide), hZ.out, hW.out⟩
      case round =>
        obtain ⟨j, cc, zs, rfl, rfl, hj, hcc, hI, hZ, hW⟩ := hrel
        have hzl := hI.out.1
        by_cases hlt2 : j < ys.length
        · obtain ⟨b, y, rfl, hcb, hyb, hye⟩ := u32at (hB.below hW.out) hlt2
          obtain ⟨o, ho1, ho2, hob, hoe⟩ := hZ.out.at32 (i := k + j) (by omega) hI.out.2.1
          have hca : wr.cell? (a.add k) = some (.int .u32 x) := (hW.out.cell (World.block_lt_of_cell? w _ hca0)).trans hca0
          have hw1 : IntKind.i64.wrap ((k : Int) + (j : Int)) = (k : Int) + (j : Int) := IntWalk.i64_in _ (by omega)
          have hw2 : 0 ≤ (k : Int) + (j : Int) := by omega
          have hw3 : ((k : Int) + (j : Int)).toNat = k + j := by omega
          have hw4 : (k : Int) + (j : Int) < (xs.length : Int) + (ys.length : Int) := by omega
          have hq1 : (k : Int) < (xs.length : Int) := by omega
          have hq2 : (j : Int) < (ys.length : Int) := by omega
          have hq3 : (0 : Int) ≤ (k : Int) := by omega
          have hq4 : (0 : Int) ≤ (j : Int) := by omega
          go_wp2_with fail
          go_quiet (fail)
          clear hw1 hw2 hw3 hw4 hq1 hq2 hq3 hq4
          go_wp2
          go_roundw
          case rel =>
            obtain ⟨hs1, hs2⟩ := times_sum hcc hxb hyb hob
            exact ⟨j + 1, (cc + x * y + o) / 4294967296, _, by go_num, by rw [hs1]; rfl, by omega, hs2, TimesIn.step (by decide) hI.out hlt hlt2 hye.out hoe.out rfl hs2, Blk.set32 (w := wr.drewN nq) hZ.out _ _ _ (by rw [hs1]; rfl), (below_drewN hW.out _).setCell (Nat.le_refl _) _⟩
          case measure => simp [intOf]; omega
        · obtain rfl : j = ys.length := by omega
          obtain ⟨o, ho1, ho2, hob, hoe⟩ := hZ.out.at32 (i := k + ys.length) (by omega) hI.out.2.1
          go_wp2
          go_roundw
          case rel => exact ⟨k + 1, _, by go_num, by omega, hI.out.out hlt hxe.out, hZ.out.set32 _ _ _ (by omega), hW.out.setCell (Nat.le_refl _) _⟩
          case measure => simp [intOf]; omega
    · obtain rfl : k = xs.length := by omega
      have hd := hI.out.2.2.1
      rw [List.take_length] at hd
      go_wp2_with fail
      refine (trim_calls _ _ _ 113 0 zs _ hzl (u32all hZ.out hI.out.2.1) (by omega) (Nat.le_refl _)).mono ?_
      rintro e w' ⟨rfl, rfl⟩
      have HH := Lib.hid (mRd_trim (base := b2) hZ.out hI.out.2.1 hzl (Nat.le_refl _) hd)
      clear hd
      go_wp2
      go_ret
      exact ⟨_, rfl, HH.out, hW.out⟩
end Go.Proofs.YtcfejobdgiiihaaGreatDoor

namespace Go.Proofs.YtcfejobdgiiihaaGreatDoor
open Go.RowKit

set_option maxHeartbeats 1000000 in
theorem length_calls (A : Option Addr) (n c t base : Nat) (xs : List Nat) (w : World) (hn : xs.length = n) (hA : u32.Row t w base A xs) (hl : n ≤ 1099511627776) (ht : Trimmed xs) :
    Calls Tryz.prog 68 #[.slice A n c] w fun e w' => e = .returned (.int .i64 (bl (val B32 xs) : Nat)) ∧ w = w' := by
  subst hn
  rcases Nat.eq_zero_or_pos xs.length with h0 | h0
  · rw [List.length_eq_zero_iff.1 h0]
    clear ht
    go_enter Tryz.func68, Tryz.ntmps68
    go_wp2
    go_ret
    exact ⟨rfl, rfl⟩
  · obtain ⟨k, hk⟩ : ∃ k, xs.length = k + 1 := ⟨xs.length - 1, by omega⟩
    obtain ⟨a, x, rfl, hca, hx, hxe⟩ := u32at hA (i := k) (by omega)
    have hx0 : x ≠ 0 := by
      rcases ht with ht | ht
      · rw [ht] at hk; simp at hk
      · rw [show xs.length - 1 = k from by omega, hxe.out] at ht; omega
    have hv := bl_val hk (u32bd hA) hxe.out hx0
    rw [hv]
    have hq2 : (k : Int) ≤ 1099511627776 := by omega
    clear hv ht
    have HX := Lib.hid hx0
    clear hx0
    rw [hk]
    clear hk h0
    have hq : ((k : Int) + 1 == 0) = false := by simp; omega
    go_enter Tryz.func68, Tryz.ntmps68
    go_wp2
    go_loop [3, 4] (fun n y => ∃ (m z : Nat), n = .int .i64 m ∧ y = .int .u32 z ∧ z < 4294967296 ∧ m + bl z = 32 * k + bl x) (fun _ y => (intOf y).toNat)
    case atStart => exact ⟨32 * k, x, by go_num, rfl, hx, rfl⟩
    case round =>
      obtain ⟨m, z, rfl, rfl, hz, hm⟩ := hrel
      have hbx : bl x ≤ 32 := bl_le_of_lt hx
      have hbz : bl z ≤ 32 := bl_le_of_lt hz
      rcases Nat.eq_zero_or_pos z with h1 | h1
      · subst h1
        rw [bl_zero] at hm
        have HM := Lib.hid hm
        clear hm
        go_wp2
        go_ret
        exact ⟨ret_int' (by have := HM.out; omega), rfl⟩
      · have hb := bl_half (x := z) (by omega)
        have HM : Hid (m + 1 + bl (z / 2) = 32 * k + bl x) := by simp only [Hid]; omega
        have hmb : m ≤ 32 * k + 32 := by omega
        clear hm hb hbx hbz
        go_wp2
        go_round
        case rel => exact ⟨m + 1, z / 2, by go_num, by go_num, by omega, HM.out⟩
        case measure => simp [intOf]; omega

theorem or_word {w d : Nat} (hw : w < 4294967296) (hd : d < 4294967296) : bits .or .u64 ((w : Int) * 4294967296) (d : Int) = ((d + 4294967296 * w : Nat) : Int) := by
  have e : (w : Int) * 4294967296 = ((w * 4294967296 : Nat) : Int) := by omega
  rw [e, u64_or_nat _ _ (by omega) (by omega)]
  have := or_add_low (z := d) (y := w * 4294967296) (r := 32) hd (by omega)
  rw [Nat.or_comm, this, Nat.mul_comm]
set_option maxHeartbeats 1000000 in
theorem word_calls (A : Option Addr) (n c t base : Nat) (xs : List Nat) (w : World) (hn : xs.length = n) (hA : u32.Row t w base A xs) (hl : n ≤ 2) :
    Calls Tryz.prog 71 #[.slice A n c] w fun e w' => e = .returned (.int .u64 (val B32 xs : Nat)) ∧ w = w' := by
  subst hn
  go_enter Tryz.func71, Tryz.ntmps71
  go_wp2
  go_loop [3, 4] (fun v i => ∃ (k z : Nat), v = .int .u64 z ∧ i = .int .i64 ((k : Int) - 1) ∧ k ≤ xs.length ∧ z < 18446744073709551616 ∧ (0 < k → z < 4294967296) ∧ Hid (val B32 (xs.drop k) = z)) (fun _ i => (intOf i + 1).toNat)
  case atStart => exact ⟨xs.length, 0, rfl, rfl, Nat.le_refl _, by omega, fun _ => by omega, by simp [Hid, val]⟩
  case round =>
    obtain ⟨k, z, rfl, rfl, hk, hz, hz1, hI⟩ := hrel
    cases k with
    | zero =>
      go_wp2
      go_ret
      exact ⟨ret_int' (by rw [← hI.out]; rfl), rfl⟩
    | succ k =>
      obtain ⟨a, x, rfl, hca, hx, hxe⟩ := u32at hA (i := k) (by omega)
      have hz2 : z < 4294967296 := hz1 (by omega)
      clear hz1
      go_wp2
      go_round
      case rel =>
        refine ⟨k, x + 4294967296 * z, ?_, by go_num, by omega, by omega, ?_, ?_⟩
        · rw [or_word hz2 hx]
        · intro h
          have : z = 0 := by
            rw [← hI.out, List.drop_of_length_le (by omega)]; rfl
          omega
        · rw [Hid, drop_val B32 (by omega), hxe.out, hI.out]
      case measure => simp [intOf]

theorem or_hi {h g : Nat} (hh : h < 4294967296) (hg : g < 4294967296) : bits .or .u64 (h : Int) ((g : Int) * 4294967296) = ((h + 4294967296 * g : Nat) : Int) := by
  have e : (g : Int) * 4294967296 = ((g * 4294967296 : Nat) : Int) := by omega
  rw [e, u64_or_nat _ _ (by omega) (by omega), or_add_low (z := h) (y := g * 4294967296) (r := 32) hh (by omega), Nat.mul_comm]
def restB (v : Nat) : Bool := decide (v ≠ 0)
theorem flag_lo {x r v : Nat} (hx : x < 4294967296) (hr : r < 32) (h : v = 0 ↔ x % 2 ^ r = 0) :
    (bits .and .u32 (x : Int) (((2 : Int) ^ r - 1) % 4294967296) != 0) = restB v := by
  have hb := (shl_bounds hx hr).2.2
  have e1 : (((2 : Int) ^ r - 1) % 4294967296) = ((2 ^ r - 1 : Nat) : Int) := by
    have e : (2 : Int) ^ r = ((2 ^ r : Nat) : Int) := by simp [Int.natCast_pow]
    have hp : 0 < 2 ^ r := Nat.pow_pos (n := r) (show 0 < 2 by decide)
    rw [e]
    generalize 2 ^ r = p at *
    omega
  rw [e1, u32_and_nat _ _ hx (by omega), Nat.and_two_pow_sub_one_eq_mod, Bool.eq_iff_iff]
  simp only [restB, decide_eq_true_eq, bne_iff_ne, ne_eq, h]
  omega
theorem shr_low (x r : Nat) : (x : Int) / 2 ^ r % 4294967296 = ((x / 2 ^ r % 4294967296 : Nat) : Int) := by
  have e : (2 : Int) ^ r = ((2 ^ r : Nat) : Int) := by simp [Int.natCast_pow]
  rw [e, ← Int.natCast_ediv]
  omega
set_option maxHeartbeats 2000000 in
theorem right_out (A : Option Addr) (m c t base b2 n : Nat) (xs : List Nat) (w : World) (hn : xs.length = m) (hA : u32.Row t w base A xs) (hl : m ≤ 1099511627776) (hs : n ≤ 1099511627776) (h2 : xs.length ≤ n / 32) :
    Calls Tryz.prog 92 #[.slice A m c, .int .i64 n] w fun e w' => ∃ v, e = .returned (.tuple #[v, .bool (restB (val B32 xs % 2 ^ n))]) ∧ mRd.R w' b2 (val B32 xs / 2 ^ n) [v] ∧ Below w.heap.size w w' := by
  subst hn
  have hlt := right_all h2 (u32bd hA)
  rw [Nat.mod_eq_of_lt hlt, Nat.div_eq_of_lt hlt]
  clear hlt
  go_enter Tryz.func92, Tryz.ntmps92
  go_wp2
  go_loop [6, 7] (fun r i => ∃ k : Nat, i = .int .i64 k ∧ k ≤ xs.length ∧ k ≤ n / 32 ∧ r = .bool (restB (val B32 (xs.take k)))) (fun _ i => xs.length - (intOf i).toNat)
  case atStart => exact ⟨0, rfl, by omega, by omega, rfl⟩
  case round =>
    obtain ⟨k, rfl, hk, hkn, rfl⟩ := hrel
    by_cases h1 : k < xs.length ∧ k < n / 32
    · obtain ⟨h1, h2⟩ := h1
      obtain ⟨a, x, rfl, hca, hx, hxe⟩ := u32at hA h1
      have hv := val_zero_step (B := B32) (by decide) h1
      rw [hxe.out] at hv
      by_cases h0 : val B32 (xs.take k) = 0
      · have e1 : restB (val B32 (xs.take k)) = false := by simp [restB, h0]
        rw [e1]
        by_cases h3 : x = 0
        · subst h3
          have HV : Hid (val B32 (xs.take (k + 1)) = 0) := hv.2 ⟨h0, rfl⟩
          clear hv h0 e1
          go_wp2
          go_round
          case rel => exact ⟨k + 1, by go_num, by omega, by omega, by rw [HV.out]; rfl⟩
          case measure => simp [intOf]; omega
        · have HV : Hid (val B32 (xs.take (k + 1)) ≠ 0) := fun h => h3 (hv.1 h).2
          clear hv h0 e1
          go_wp2
          go_round
          case rel => exact ⟨k + 1, by go_num, by omega, by omega, by simp [restB, HV.out, h3]⟩
          case measure => simp [intOf]; omega
      · have e1 : restB (val B32 (xs.take k)) = true := by simp [restB, h0]
        rw [e1]
        have HV : Hid (val B32 (xs.take (k + 1)) ≠ 0) := fun h => h0 (hv.1 h).1
        clear hv h0 e1
        go_wp2
        go_round
        case rel => exact ⟨k + 1, by go_num, by omega, by omega, by simp [restB, HV.out]⟩
        case measure => simp [intOf]; omega
    · obtain rfl : k = xs.length := by omega
      rw [List.take_of_length_le (Nat.le_refl _)]
      go_wp2
      go_ret2
      exact ⟨_, rfl, mRd_nil _ _ _ _, Below.refl _ _⟩

set_option maxHeartbeats 2000000 in
theorem right_in (A : Option Addr) (m c t base b2 n : Nat) (xs : List Nat) (w : World) (hn : xs.length = m) (hA : u32.Row t w base A xs) (hl : m ≤ 1099511627776) (hs : n ≤ 1099511627776) (h2 : n / 32 < xs.length) :
    Calls Tryz.prog 92 #[.slice A m c, .int .i64 n] w fun e w' => ∃ v, e = .returned (.tuple #[v, .bool (restB (val B32 xs % 2 ^ n))]) ∧ mRd.R w' b2 (val B32 xs / 2 ^ n) [v] ∧ Below w.heap.size w w' := by
  subst hn
  have hm := fun W => make32 (n := xs.length - n / 32) W (by omega)
  rw [show ((xs.length - n / 32 : Nat) : Int) = (xs.length : Int) - (n : Int) / 32 from by omega] at hm
  have HB := Lib.hid (u32bd hA)
  have HR := Lib.hid (right_rest h2 HB.out)
  rw [right_floor (by omega) HB.out]
  go_enter Tryz.func92, Tryz.ntmps92
  go_wp2
  go_loop [6, 7] (fun r i => ∃ k : Nat, i = .int .i64 k ∧ k ≤ xs.length ∧ k ≤ n / 32 ∧ r = .bool (restB (val B32 (xs.take k)))) (fun _ i => xs.length - (intOf i).toNat)
  case atStart => exact ⟨0, rfl, by omega, by omega, rfl⟩
  case round =>
    obtain ⟨k, rfl, hk, hkn, rfl⟩ := hrel
    by_cases h1 : k < n / 32
    · have h1' : k < xs.length := by omega
      obtain ⟨a, x, rfl, hca, hx, hxe⟩ := u32at hA h1'
      have hv := val_zero_step (B := B32) (by decide) h1'
      rw [hxe.out] at hv
      by_cases h0 : val B32 (xs.take k) = 0
      · have e1 : restB (val B32 (xs.take k)) = false := by simp [restB, h0]
        rw [e1]
        by_cases h3 : x = 0
        · subst h3
          have HV : Hid (val B32 (xs.take (k + 1)) = 0) := hv.2 ⟨h0, rfl⟩
          clear hv h0 e1
          go_wp2
          go_round
          case rel => exact ⟨k + 1, by go_num, by omega, by omega, by rw [HV.out]; rfl⟩
          case measure => simp [intOf]; omega
        · have HV : Hid (val B32 (xs.take (k + 1)) ≠ 0) := fun h => h3 (hv.1 h).2
          clear hv h0 e1
          go_wp2
          go_round
          case rel => exact ⟨k + 1, by go_num, by omega, by omega, by simp [restB, HV.out, h3]⟩
          case measure => simp [intOf]; omega
      · have e1 : restB (val B32 (xs.take k)) = true := by simp [restB, h0]
        rw [e1]
        have HV : Hid (val B32 (xs.take (k + 1)) ≠ 0) := fun h => h0 (hv.1 h).1
        clear hv h0 e1
        go_wp2
        go_round
        case rel => exact ⟨k + 1, by go_num, by omega, by omega, by simp [restB, HV.out]⟩
        case measure => simp [intOf]; omega
    · obtain rfl : k = n / 32 := by omega
      obtain ⟨a, x, rfl, hca, hx, hxe⟩ := u32at hA h2
      have HR2 := HR
      rw [hxe.out] at HR2
      have hq1 : 0 ≤ (n : Int) / 32 := by omega
      have hq2 : (n : Int) / 32 < (xs.length : Int) := by omega
      have hq3 : ((n : Int) / 32).toNat = n / 32 := by omega
      by_cases h0 : val B32 (xs.take (n / 32)) = 0
      · have e1 : restB (val B32 (xs.take (n / 32))) = false := by simp [restB, h0]
        rw [e1]
        have HF := Lib.hid (flag_lo hx (Nat.mod_lt n (show 0 < 32 by decide)) (HR2.out.trans (and_iff_right h0)))
        clear h0 e1
        go_wp2
        go_quiet (fail)
        go_wp2
        clear hq1 hq2 hq3 hm
        go_loopw [9] (fun i wr => ∃ (k : Nat) (zs : List Nat), i = .int .i64 k ∧ k ≤ xs.length - n / 32 ∧ Hid (RightInv B32 (xs.drop (n / 32)) (n % 32) k zs) ∧ Hid (Blk wr w.heap.size 113 (i32s zs)) ∧ Hid (Below w.heap.size w wr)) (fun i _ => (xs.length - n / 32) - (intOf i).toNat)
        case atStart => exact ⟨0, _, rfl, by omega, RightInv.start _ (by decide) _ _, by rw [List.length_drop, ← made32]; exact Blk.new _ _ _, below_new (below_drewN (Below.refl _ _) _) _⟩
        case round =>
          obtain ⟨k, zs, rfl, hk, hI, hZ, hW⟩ := hrel
          have hzl := hI.out.1
          rw [List.length_drop] at hzl
          by_cases hlt : k < xs.length - n / 32
          · obtain ⟨a', h, ha', hch, hhb, hhe⟩ := u32at (hA.below hW.out) (i := k + n / 32) (by omega)
            cases ha'
            have hhe2 : Hid ((xs.drop (n / 32)).getD k 0 = h) := by simp only [Hid, List.getD_eq_getElem?_getD, List.getElem?_drop]; rw [Nat.add_comm, ← List.getD_eq_getElem?_getD]; exact hhe.out
            obtain ⟨z, hz1, hz2, _, _⟩ := hZ.out.at32 (i := k) (by omega) hI.out.2.1
            by_cases hg : k + n / 32 + 1 < xs.length
            · obtain ⟨a', g, ha', hcg, hgb, hge⟩ := u32at (hA.below hW.out) hg
              cases ha'
              have hge2 : Hid ((xs.drop (n / 32)).getD (k + 1) 0 = g) := by simp only [Hid, List.getD_eq_getElem?_getD, List.getElem?_drop]; rw [show n / 32 + (k + 1) = k + n / 32 + 1 from by omega, ← List.getD_eq_getElem?_getD]; exact hge.out
              have hcg2 := cell_succ hcg (by omega)
              go_wp2
              go_roundw
              case rel => exact ⟨k + 1, _, by go_num, by omega, RightInv.step (h := h) (g := g) (Nat.mod_lt _ (by decide)) hI.out (by simp; omega) hhe2.out hhb hge2.out, hZ.out.set32 _ _ _ (by rw [or_hi hhb hgb]; exact shr_low _ _), hW.out.setCell (Nat.le_refl _) _⟩
              case measure => simp [intOf]; omega
            · have hge2 : Hid ((xs.drop (n / 32)).getD (k + 1) 0 = 0) := by rw [Hid, getD_ge]; simp; omega
              go_wp2
              go_roundw
              case rel => exact ⟨k + 1, _, by go_num, by omega, RightInv.step (h := h) (g := 0) (Nat.mod_lt _ (by decide)) hI.out (by simp; omega) hhe2.out hhb hge2.out, hZ.out.set32 _ _ _ (shr_low _ _), hW.out.setCell (Nat.le_refl _) _⟩
              case measure => simp [intOf]; omega
          · obtain rfl : k = xs.length - n / 32 := by omega
            have hI2 := hI.out
            rw [← List.length_drop] at hI2
            have hd := hI2.done
            go_wp2_with fail
            refine (trim_calls _ _ _ 113 0 zs _ hzl (u32all hZ.out hI.out.2.1) (by omega) (Nat.le_refl _)).mono ?_
            rintro e w' ⟨rfl, rfl⟩
            have HH := Lib.hid (mRd_trim (base := b2) hZ.out hI.out.2.1 hzl (Nat.le_refl _) hd)
            clear hd hI2
            go_wp2
            go_ret2
            exact ⟨_, by rw [HF.out]; rfl, HH.out, hW.out⟩
      · have e1 : restB (val B32 (xs.take (n / 32))) = true := by simp [restB, h0]
        rw [e1]
        have HF : Hid (restB (val B32 xs % 2 ^ n) = true) := by
          have : ¬ val B32 xs % 2 ^ n = 0 := fun h => h0 (HR2.out.1 h).1
          simp only [Hid, restB, decide_eq_true_eq]; exact this
        clear h0 e1
        go_wp2
        go_quiet (fail)
        go_wp2
        clear hq1 hq2 hq3 hm
        go_loopw [9] (fun i wr => ∃ (k : Nat) (zs : List Nat), i = .int .i64 k ∧ k ≤ xs.length - n / 32 ∧ Hid (RightInv B32 (xs.drop (n / 32)) (n % 32) k zs) ∧ Hid (Blk wr w.heap.size 113 (i32s zs)) ∧ Hid (Below w.heap.size w wr)) (fun i _ => (xs.length - n / 32) - (intOf i).toNat)
        case atStart => exact ⟨0, _, rfl, by omega, RightInv.start _ (by decide) _ _, by rw [List.length_drop, ← made32]; exact Blk.new _ _ _, below_new (below_drewN (Below.refl _ _) _) _⟩
        case round =>
          obtain ⟨k, zs, rfl, hk, hI, hZ, hW⟩ := hrel
          have hzl := hI.out.1
          rw [List.length_drop] at hzl
          by_cases hlt : k < xs.length - n / 32
          · obtain ⟨a', h, ha', hch, hhb, hhe⟩ := u32at (hA.below hW.out) (i := k + n / 32) (by omega)
            cases ha'
            have hhe2 : Hid ((xs.drop (n / 32)).getD k 0 = h) := by simp only [Hid, List.getD_eq_getElem?_getD, List.getElem?_drop]; rw [Nat.add_comm, ← List.getD_eq_getElem?_getD]; exact hhe.out
            obtain ⟨z, hz1, hz2, _, _⟩ := hZ.out.at32 (i := k) (by omega) hI.out.2.1
            by_cases hg : k + n / 32 + 1 < xs.length
            · obtain ⟨a', g, ha', hcg, hgb, hge⟩ := u32at (hA.below hW.out) hg
              cases ha'
              have hge2 : Hid ((xs.drop (n / 32)).getD (k + 1) 0 = g) := by simp only [Hid, List.getD_eq_getElem?_getD, List.getElem?_drop]; rw [show n / 32 + (k + 1) = k + n / 32 + 1 from by omega, ← List.getD_eq_getElem?_getD]; exact hge.out
              have hcg2 := cell_succ hcg (by omega)
              go_wp2
              go_roundw
              case rel => exact ⟨k + 1, _, by go_num, by omega, RightInv.step (h := h) (g := g) (Nat.mod_lt _ (by decide)) hI.out (by simp; omega) hhe2.out hhb hge2.out, hZ.out.set32 _ _ _ (by rw [or_hi hhb hgb]; exact shr_low _ _), hW.out.setCell (Nat.le_refl _) _⟩
              case measure => simp [intOf]; omega
            · have hge2 : Hid ((xs.drop (n / 32)).getD (k + 1) 0 = 0) := by rw [Hid, getD_ge]; simp; omega
              go_wp2
              go_roundw
              case rel => exact ⟨k + 1, _, by go_num, by omega, RightInv.step (h := h) (g := 0) (Nat.mod_lt _ (by decide)) hI.out (by simp; omega) hhe2.out hhb hge2.out, hZ.out.set32 _ _ _ (shr_low _ _), hW.out.setCell (Nat.le_refl _) _⟩
              case measure => simp [intOf]; omega
          · obtain rfl : k = xs.length - n / 32 := by omega
            have hI2 := hI.out
            rw [← List.length_drop] at hI2
            have hd := hI2.done
            go_wp2_with fail
            refine (trim_calls _ _ _ 113 0 zs _ hzl (u32all hZ.out hI.out.2.1) (by omega) (Nat.le_refl _)).mono ?_
            rintro e w' ⟨rfl, rfl⟩
            have HH := Lib.hid (mRd_trim (base := b2) hZ.out hI.out.2.1 hzl (Nat.le_refl _) hd)
            clear hd hI2
            go_wp2
            go_ret2
            exact ⟨_, by rw [HF.out]; rfl, HH.out, hW.out⟩
theorem right_calls (A : Option Addr) (m c t base b2 n : Nat) (xs : List Nat) (w : World) (hn : xs.length = m) (hA : u32.Row t w base A xs) (hl : m ≤ 1099511627776) (hs : n ≤ 1099511627776) :
    Calls Tryz.prog 92 #[.slice A m c, .int .i64 n] w fun e w' => ∃ v, e = .returned (.tuple #[v, .bool (restB (val B32 xs % 2 ^ n))]) ∧ mRd.R w' b2 (val B32 xs / 2 ^ n) [v] ∧ Below w.heap.size w w' := by
  subst hn
  rcases Nat.lt_or_ge (n / 32) xs.length with h | h
  · exact right_in A _ c t base b2 n xs w rfl hA hl hs h
  · exact right_out A _ c t base b2 n xs w rfl hA hl hs h
end Go.Proofs.YtcfejobdgiiihaaGreatDoor

namespace Go.Proofs.YtcfejobdgiiihaaGreatDoor
open Go.RowKit

/-! ### exact reals in memory: X at the scale 2^-K -/
def sg (neg : Bool) (m : Nat) : Int := if neg then -(m : Int) else m
def numRd (K : Nat) : Rd Int where
  sz := 3
  E := [113]
  R w base X cs := ∃ (neg : Bool) (m : Nat) (e : Int) (v : Value), cs = [.bool neg, v, .int .i64 e] ∧ mRd.R w base m [v] ∧ (m ≠ 0 → 0 ≤ e + K) ∧ (-1099511627776 ≤ e ∧ e ≤ 1099511627776) ∧ X = sg neg (m * 2 ^ (e + K).toNat)
  len h := by obtain ⟨_, _, _, _, rfl, _⟩ := h; rfl
  one h u hu := by
    obtain ⟨_, _, _, _, rfl, h1, _⟩ := h
    simp at hu
    rcases hu with rfl | rfl | rfl
    · rfl
    · exact mRd.one h1 _ (by simp)
    · rfl
  keep h hk := by obtain ⟨n, m, e, v, rfl, h1, h2⟩ := h; exact ⟨n, m, e, v, rfl, mRd.keep h1 hk, h2⟩

/-! floats by their bits -/
def fexp (u : Nat) : Nat := u / 4503599627370496 % 2048
def fman (u : Nat) : Nat := if fexp u = 0 then u % 4503599627370496 else u % 4503599627370496 + 4503599627370496
def fneg (u : Nat) : Bool := decide (u / 9223372036854775808 = 1)
def fin (u : Nat) : Bool := decide (fexp u ≠ 2047)
/-- the value in parts of 2^-1074 -/
def fv (u : Nat) : Int := sg (fneg u) (fman u * 2 ^ (max (fexp u) 1 - 1))

theorem fexp_lt (u : Nat) : fexp u < 2048 := Nat.mod_lt _ (by decide)
theorem val_two (m : Nat) : val B32 [m % 4294967296, m / 4294967296] = m := by simp only [val, B32]; omega
theorem two_lt {m : Nat} (h : m < 18446744073709551616) : ∀ d ∈ [m % 4294967296, m / 4294967296], d < 4294967296 := by
  intro d hd; simp at hd; omega
theorem lits32 (W : World) (a b : Int) (x y t g : Nat) (hg : W.heap.size = g) (ha : a = x) (hb : b = y) : Blk (W.alloc (.cells #[.int .u32 a, .int .u32 b] t)) g t (i32s [x, y]) := by
  subst ha hb hg; exact Blk.new _ _ _
theorem bits_fexp {u : Nat} (hu : u < 18446744073709551616) : bits BinOp.and IntKind.u64 ((u : Int) / 4503599627370496) 2047 = (fexp u : Nat) := by
  rw [show (u : Int) / 4503599627370496 = ((u / 4503599627370496 : Nat) : Int) from by omega, show (2047 : Int) = ((2 ^ 11 - 1 : Nat) : Int) from by decide,
    u64_and_nat _ _ (by omega) (by decide), Nat.and_two_pow_sub_one_eq_mod]
  rfl
theorem bits_fman {u : Nat} (hu : u < 18446744073709551616) : bits BinOp.and IntKind.u64 (u : Int) 4503599627370495 = ((u % 4503599627370496 : Nat) : Int) := by
  rw [show (4503599627370495 : Int) = ((2 ^ 52 - 1 : Nat) : Int) from by decide, u64_and_nat _ _ hu (by decide), Nat.and_two_pow_sub_one_eq_mod]
theorem bits_hid {m : Nat} (hm : m < 4503599627370496) : bits BinOp.or IntKind.u64 (m : Int) 4503599627370496 = ((m + 4503599627370496 : Nat) : Int) := by
  rw [show (4503599627370496 : Int) = ((4503599627370496 : Nat) : Int) from rfl, u64_or_nat _ _ (by omega) (by decide), or_add_low (r := 52) hm (by decide)]
set_option maxHeartbeats 400000 in
set_option maxRecDepth 100000 in
theorem of_bad (u : Nat) (w : World) (hu : u < 18446744073709551616) (hf : fexp u = 2047) :
    Calls Tryz.prog 29 #[.int .u64 u] w fun e w' => e = .returned (.tuple #[.agg #[.bool false, .slice none 0 0, .int .i64 0], .bool false]) ∧ Below w.heap.size w w' := by
  have hb1 := bits_fexp hu
  rw [hf] at hb1
  clear hf
  go_enter Tryz.func29, Tryz.ntmps29
  go_wp2
  exact bodyPost_ret (v := .tuple #[.agg #[.bool false, .slice none 0 0, .int .i64 0], .bool false]) (by simp [results, Tryz.results29, go_sem]) rfl ⟨rfl, below_new (Below.refl _ _) _⟩
set_option maxHeartbeats 1000000 in
set_option maxRecDepth 100000 in
theorem of_nought (u : Nat) (w : World) (hu : u < 18446744073709551616) (hf : fexp u = 0) (hm : u % 4503599627370496 = 0) :
    Calls Tryz.prog 29 #[.int .u64 u] w fun e w' => e = .returned (.tuple #[.agg #[.bool false, .slice none 0 0, .int .i64 0], .bool true]) ∧ Below w.heap.size w w' := by
  have hb1 := bits_fexp hu
  have hb2 := bits_fman hu
  rw [hf] at hb1
  rw [hm] at hb2
  clear hf hm
  go_enter Tryz.func29, Tryz.ntmps29
  go_wp2
  exact bodyPost_ret (v := .tuple #[.agg #[.bool false, .slice none 0 0, .int .i64 0], .bool true]) (by simp [results, Tryz.results29, go_sem]) rfl ⟨rfl, below_new (Below.refl _ _) _⟩
set_option maxHeartbeats 1000000 in
set_option maxRecDepth 100000 in
theorem of_norm (u base : Nat) (w : World) (hu : u < 18446744073709551616) (hf : fexp u ≠ 2047) (hf0 : fexp u ≠ 0) :
    Calls Tryz.prog 29 #[.int .u64 u] w fun e w' => ∃ v, e = .returned (.tuple #[.agg #[.bool (fneg u), v, .int .i64 ((fexp u : Nat) - 1075)], .bool true]) ∧ mRd.R w' base (u % 4503599627370496 + 4503599627370496) [v] ∧ Below w.heap.size w w' := by
  have hb1 := bits_fexp hu
  have hb2 := bits_fman hu
  have hm := Nat.mod_lt u (show 0 < 4503599627370496 by decide)
  have he := fexp_lt u
  have HN : Hid (fneg u = decide ((u : Int) / 9223372036854775808 = 1)) := by simp only [Hid, fneg]; congr 1; simp; omega
  generalize fexp u = x at *
  generalize u % 4503599627370496 = m at *
  have hb3 := bits_hid hm
  simp only [Int.natCast_add, Int.cast_ofNat_Int] at hb3
  go_enter Tryz.func29, Tryz.ntmps29
  go_wp2_with fail
  have hZ := Lib.hid (lits32 (w.alloc (Obj.cells #[Value.bool false, Value.slice none 0 0, Value.int IntKind.i64 0] 72)) (((m : Int) + 4503599627370496) % 4294967296) (((m : Int) + 4503599627370496) / 4294967296) ((m + 4503599627370496) % 4294967296) ((m + 4503599627370496) / 4294967296) 113 (w.heap.size + 1) (by simp) (by omega) (by omega))
  have hl2 := two_lt (m := m + 4503599627370496) (by omega)
  refine (trim_calls _ _ _ 113 0 [(m + 4503599627370496) % 4294967296, (m + 4503599627370496) / 4294967296] _ rfl (u32all hZ.out hl2) (by simp) (Nat.le_refl _)).mono ?_
  rintro e w' ⟨rfl, rfl⟩
  clear hZ
  go_wp2
  refine bodyPost_ret (v := .tuple #[.agg #[.bool ((u : Int) / 9223372036854775808 == 1), .slice (some ⟨w.heap.size + 1, 0, none⟩) (trimLen [(m + 4503599627370496) % 4294967296, (m + 4503599627370496) / 4294967296] 2) 2, .int .i64 ((x : Int) - 1075)], .bool true]) (by simp [results, Tryz.results29, go_sem]) rfl ⟨_, by rw [HN.out]; rfl, mRd_trim (lits32 _ _ _ _ _ _ _ (by simp) (by omega) (by omega)) hl2 rfl (Nat.le_refl _) (val_two _), below_new (below_new (Below.refl _ _) _) _⟩
set_option maxHeartbeats 1000000 in
set_option maxRecDepth 100000 in
theorem of_sub (u base : Nat) (w : World) (hu : u < 18446744073709551616) (hf : fexp u = 0) (hf0 : u % 4503599627370496 ≠ 0) :
    Calls Tryz.prog 29 #[.int .u64 u] w fun e w' => ∃ v, e = .returned (.tuple #[.agg #[.bool (fneg u), v, .int .i64 (-1074)], .bool true]) ∧ mRd.R w' base (u % 4503599627370496) [v] ∧ Below w.heap.size w w' := by
  have hb1 := bits_fexp hu
  have hb2 := bits_fman hu
  have hm := Nat.mod_lt u (show 0 < 4503599627370496 by decide)
  rw [hf] at hb1
  have HN : Hid (fneg u = decide ((u : Int) / 9223372036854775808 = 1)) := by simp only [Hid, fneg]; congr 1; simp; omega
  clear hf
  generalize u % 4503599627370496 = m at *
  have h0 : ((m : Int) == 0) = false := by simpa using hf0
  have HM := Lib.hid hf0
  clear hf0
  go_enter Tryz.func29, Tryz.ntmps29
  go_wp2_with fail
  have hZ := Lib.hid (lits32 (w.alloc (Obj.cells #[Value.bool false, Value.slice none 0 0, Value.int IntKind.i64 0] 72)) ((m : Int) % 4294967296) ((m : Int) / 4294967296) (m % 4294967296) (m / 4294967296) 113 (w.heap.size + 1) (by simp) (by omega) (by omega))
  have hl2 := two_lt (m := m) (by omega)
  refine (trim_calls _ _ _ 113 0 [m % 4294967296, m / 4294967296] _ rfl (u32all hZ.out hl2) (by simp) (Nat.le_refl _)).mono ?_
  rintro e w' ⟨rfl, rfl⟩
  clear hZ
  go_wp2
  refine bodyPost_ret (v := .tuple #[.agg #[.bool ((u : Int) / 9223372036854775808 == 1), .slice (some ⟨w.heap.size + 1, 0, none⟩) (trimLen [m % 4294967296, m / 4294967296] 2) 2, .int .i64 (-1074)], .bool true]) (by simp [results, Tryz.results29, go_sem]) rfl ⟨_, by rw [HN.out]; rfl, mRd_trim (lits32 _ _ _ _ _ _ _ (by simp) (by omega) (by omega)) hl2 rfl (Nat.le_refl _) (val_two _), below_new (below_new (Below.refl _ _) _) _⟩

theorem sg_zero (neg : Bool) : sg neg 0 = 0 := by cases neg <;> rfl
/-- what a number's bits tell -/
theorem of_fin (u base : Nat) (w : World) (hu : u < 18446744073709551616) (hf : fin u = true) :
    Calls Tryz.prog 29 #[.int .u64 u] w fun e w' => ∃ cs, e = .returned (.tuple #[.agg cs.toArray, .bool true]) ∧ (numRd 1074).R w' base (fv u) cs ∧ Below w.heap.size w w' := by
  have hf' : fexp u ≠ 2047 := by simpa [fin] using hf
  have hlt := fexp_lt u
  by_cases h0 : fexp u = 0
  · by_cases hm : u % 4503599627370496 = 0
    · refine (of_nought u w hu h0 hm).mono ?_
      rintro e w' ⟨rfl, hb⟩
      refine ⟨[.bool false, .slice none 0 0, .int .i64 0], rfl, ⟨false, 0, 0, _, rfl, mRd_nil _ _ _ _, fun h => absurd rfl h, by omega, ?_⟩, hb⟩
      unfold fv fman; rw [if_pos h0, hm, Nat.zero_mul, Nat.zero_mul, sg_zero, sg_zero]
    · refine (of_sub u base w hu h0 hm).mono ?_
      rintro e w' ⟨v, rfl, hv, hb⟩
      refine ⟨[.bool (fneg u), v, .int .i64 (-1074)], rfl, ⟨_, _, _, _, rfl, hv, fun _ => by omega, by omega, ?_⟩, hb⟩
      unfold fv fman; rw [if_pos h0, h0]; rfl
  · refine (of_norm u base w hu hf' h0).mono ?_
    rintro e w' ⟨v, rfl, hv, hb⟩
    refine ⟨[.bool (fneg u), v, .int .i64 ((fexp u : Nat) - 1075)], rfl, ⟨_, _, _, _, rfl, hv, fun _ => by omega, by omega, ?_⟩, hb⟩
    simp only [fv, fman, h0, if_false]
    rw [show ((fexp u : Int) - 1075 + (1074 : Nat)).toNat = max (fexp u) 1 - 1 from by omega]

/-! what does not reckon -/
theorem sg_sign (neg : Bool) (m k : Nat) : Int.sign (sg neg (m * 2 ^ k)) = if m = 0 then 0 else if neg then -1 else 1 := by
  have hp : 0 < 2 ^ k := Nat.pow_pos (by decide)
  split
  · rename_i h; subst h; rw [Nat.zero_mul, sg_zero]; rfl
  · have : 0 < m * 2 ^ k := Nat.mul_pos (by omega) hp
    generalize m * 2 ^ k = q at *
    cases neg
    · simp only [sg]; rw [if_neg (by decide), if_neg (by decide), Int.sign_eq_one_of_pos (by omega)]
    · simp only [sg, if_true]; rw [Int.sign_eq_neg_one_of_neg (by omega)]
set_option maxHeartbeats 400000 in
theorem sign_calls (K base : Nat) (X : Int) (cs : List Value) (w : World) (h : (numRd K).R w base X cs) :
    Calls Tryz.prog 56 #[.agg cs.toArray] w fun e w' => e = .returned (.int .i64 (Int.sign X)) ∧ Below w.heap.size w w' := by
  obtain ⟨neg, m, e, v, rfl, ⟨xs, A, c, hv, hc, hr, ht, hval⟩, he, heb, rfl⟩ := h
  cases hv
  rw [sg_sign]
  have hz := ht.nil_iff (B := B32) (by decide)
  rw [hval] at hz
  by_cases hm : m = 0
  · rw [if_pos hm]
    have h0 : ((xs.length : Int) == 0) = true := by simp; exact List.length_eq_zero_iff.1 (hz.2 hm)
    clear hz hval ht hr hm he
    go_enter Tryz.func56, Tryz.ntmps56
    go_wp2
    go_ret
    exact ⟨rfl, below_new (Below.refl _ _) _⟩
  · rw [if_neg hm]
    have h0 : ((xs.length : Int) == 0) = false := by simp; exact fun h => hm (hz.1 (by rw [h]; rfl))
    clear hz hval ht hr hm he
    cases neg
    all_goals
      go_enter Tryz.func56, Tryz.ntmps56
      go_wp2
      go_ret
      exact ⟨rfl, below_new (Below.refl _ _) _⟩
set_option maxHeartbeats 400000 in
theorem size_calls (K base : Nat) (X : Int) (cs : List Value) (w : World) (h : (numRd K).R w base X cs) :
    Calls Tryz.prog 33 #[.agg cs.toArray] w fun e w' => ∃ cs', e = .returned (.agg cs'.toArray) ∧ (numRd K).R w' base (X.natAbs : Int) cs' ∧ Below w.heap.size w w' := by
  obtain ⟨neg, m, e, v, rfl, hm, he, heb, rfl⟩ := h
  have hX : ((sg neg (m * 2 ^ (e + K).toNat)).natAbs : Int) = sg false (m * 2 ^ (e + K).toNat) := by
    generalize m * 2 ^ (e + K).toNat = q
    cases neg <;> simp [sg]
  rw [hX]
  have HM := Lib.hid hm
  have HE := Lib.hid he
  clear he hX
  obtain ⟨xs, A, c, hv, _, _⟩ := hm
  cases hv
  go_enter Tryz.func33, Tryz.ntmps33
  go_wp2
  have hb : ∀ o o', Below w.heap.size w ((w.alloc o).alloc o') := fun o o' => below_new (below_new (Below.refl _ _) _) _
  exact bodyPost_ret (v := .agg #[.bool false, .slice A xs.length c, .int .i64 e]) (by simp [results, Tryz.results33, go_sem]) rfl ⟨[.bool false, .slice A xs.length c, .int .i64 e], rfl, ⟨false, m, e, _, rfl, mRd.below HM.out (hb _ _), HE.out, heb, rfl⟩, hb _ _⟩
set_option maxHeartbeats 400000 in
theorem turned_calls (K base : Nat) (X : Int) (cs : List Value) (w : World) (h : (numRd K).R w base X cs) :
    Calls Tryz.prog 67 #[.agg cs.toArray] w fun e w' => ∃ cs', e = .returned (.agg cs'.toArray) ∧ (numRd K).R w' base (-X) cs' ∧ Below w.heap.size w w' := by
  obtain ⟨neg, m, e, v, rfl, hm, he, heb, rfl⟩ := h
  have hX : -(sg neg (m * 2 ^ (e + K).toNat)) = sg (!neg) (m * 2 ^ (e + K).toNat) := by
    generalize m * 2 ^ (e + K).toNat = q
    cases neg <;> simp [sg]
  rw [hX]
  have HM := Lib.hid hm
  have HE := Lib.hid he
  have hb : ∀ o o', Below w.heap.size w ((w.alloc o).alloc o') := fun o o' => below_new (below_new (Below.refl _ _) _) _
  obtain ⟨xs, A, c, hv, hc, hr, ht, hval⟩ := hm
  cases hv
  have hz := ht.nil_iff (B := B32) (by decide)
  rw [hval] at hz
  clear he hX hr ht hval
  by_cases h0 : 0 < xs.length
  · clear hz
    go_enter Tryz.func67, Tryz.ntmps67
    go_wp2
    exact bodyPost_ret (v := .agg #[.bool (!neg), .slice A xs.length c, .int .i64 e]) (by simp [results, Tryz.results67, go_sem]) rfl ⟨[.bool (!neg), .slice A xs.length c, .int .i64 e], rfl, ⟨!neg, m, e, _, rfl, mRd.below HM.out (hb _ _), HE.out, heb, rfl⟩, hb _ _⟩
  · have h1 : m = 0 := hz.1 (by omega)
    subst h1
    clear hz
    simp only [Nat.zero_mul, sg_zero]
    go_enter Tryz.func67, Tryz.ntmps67
    go_wp2
    exact bodyPost_ret (v := .agg #[.bool neg, .slice A xs.length c, .int .i64 e]) (by simp [results, Tryz.results67, go_sem]) rfl ⟨[.bool neg, .slice A xs.length c, .int .i64 e], rfl, ⟨neg, 0, e, _, rfl, mRd.below HM.out (hb _ _), HE.out, heb, by rw [Nat.zero_mul, sg_zero]⟩, hb _ _⟩
/-- the same number at another scale -/
theorem moved_scale (neg : Bool) (m : Nat) (a b : Int) (h : m ≠ 0 → a = b) : sg neg (m * 2 ^ a.toNat) = sg neg (m * 2 ^ b.toNat) := by
  by_cases hm : m = 0
  · subst hm; simp only [Nat.zero_mul]
  · rw [h hm]
theorem numRd_up {K : Nat} {w : World} {base : Nat} {X : Int} {cs : List Value} (h : (numRd K).R w base X cs) (j : Nat) : (numRd (K + j)).R w base (X * 2 ^ j) cs := by
  obtain ⟨neg, m, e, v, rfl, hm, he, heb, rfl⟩ := h
  refine ⟨neg, m, e, v, rfl, hm, fun h0 => by have := he h0; omega, heb, ?_⟩
  by_cases h0 : m = 0
  · subst h0; simp only [Nat.zero_mul, sg_zero, Int.zero_mul]
  · have := he h0
    rw [show (e + (K + j : Nat)).toNat = (e + K).toNat + j from by omega, Nat.pow_add, ← Nat.mul_assoc]
    generalize m * 2 ^ (e + K).toNat = q
    cases neg <;> simp [sg, Int.natCast_mul, Int.natCast_pow, Int.neg_mul]
theorem sg_abs (neg : Bool) (q : Nat) : (sg neg q).natAbs = q := by cases neg <;> simp [sg]
theorem exp_lt {neg : Bool} {m L : Nat} {e : Int} {K : Nat} (h : m ≠ 0) (hX : (sg neg (m * 2 ^ (e + K).toNat)).natAbs < 2 ^ L) : (e + K).toNat < L := by
  rw [sg_abs] at hX
  have : 2 ^ (e + K).toNat ≤ m * 2 ^ (e + K).toNat := Nat.le_mul_of_pos_left _ (by omega)
  exact (Nat.pow_lt_pow_iff_right (show 1 < 2 by decide)).1 (Nat.lt_of_le_of_lt this hX)
theorem man_lt {neg : Bool} {m L k : Nat} (hX : (sg neg (m * 2 ^ k)).natAbs < 2 ^ L) : m < 2 ^ L := by
  rw [sg_abs] at hX
  exact Nat.lt_of_le_of_lt (Nat.le_mul_of_pos_right _ (Nat.pow_pos (by decide))) hX
theorem man_len {xs : List Nat} {m L : Nat} (ht : Trimmed xs) (hv : val B32 xs = m) (hm : m < 2 ^ L) : xs.length ≤ L / 32 + 1 := by
  refine len_le_of_val (B := B32) (by decide) ht (Nat.lt_of_lt_of_le (hv ▸ hm) ?_)
  rw [show B32 = 2 ^ 32 from rfl, ← Nat.pow_mul]
  exact Nat.pow_le_pow_right (by decide) (by omega)
set_option maxHeartbeats 400000 in
theorem moved_calls (K K' base : Nat) (n X : Int) (cs : List Value) (w : World) (h : (numRd K).R w base X cs) (hK : (K' : Int) = K - n) (hn : -1073741824 ≤ n ∧ n ≤ 1073741824) (L : Nat) (hL : L ≤ 1073741824) (hX : X.natAbs < 2 ^ L) (hK1 : K ≤ 1073741824) (hK2 : K' ≤ 1073741824) :
    Calls Tryz.prog 64 #[.agg cs.toArray, .int .i64 n] w fun e w' => ∃ cs', e = .returned (.agg cs'.toArray) ∧ (numRd K').R w' base X cs' ∧ Below w.heap.size w w' := by
  obtain ⟨neg, m, e, v, rfl, hm, he, heb, rfl⟩ := h
  have hex := fun h => exp_lt h hX
  clear hX
  obtain ⟨hn1, hn2⟩ := hn
  have HM := Lib.hid hm
  have HE := Lib.hid he
  have HK := Lib.hid hK
  have hb : ∀ o o', Below w.heap.size w ((w.alloc o).alloc o') := fun o o' => below_new (below_new (Below.refl _ _) _) _
  obtain ⟨xs, A, c, hv, hc, hr, ht, hval⟩ := hm
  cases hv
  have hz := ht.nil_iff (B := B32) (by decide)
  rw [hval] at hz
  clear he hr ht hval hK
  by_cases h0 : 0 < xs.length
  · have hm0 : m ≠ 0 := fun h => by have := hz.2 h; omega
    have he1 : e < 1073741824 := by have := hex hm0; have := HE.out hm0; omega
    have he2 : -1073741824 ≤ e := by have := HE.out hm0; omega
    have HX : Hid (-1099511627776 ≤ e + n ∧ e + n ≤ 1099511627776) := by simp only [Hid]; omega
    clear hz hex hm0
    go_enter Tryz.func64, Tryz.ntmps64
    go_wp2
    exact bodyPost_ret (v := .agg #[.bool neg, .slice A xs.length c, .int .i64 (e + n)]) (by simp [results, Tryz.results64, go_sem]) rfl ⟨[.bool neg, .slice A xs.length c, .int .i64 (e + n)], rfl, ⟨neg, m, e + n, _, rfl, mRd.below HM.out (hb _ _), fun h => by have := HE.out h; have := HK.out; omega, HX.out, moved_scale _ _ _ _ (fun _ => by have := HK.out; omega)⟩, hb _ _⟩
  · have h1 : m = 0 := hz.1 (by omega)
    subst h1
    clear hz hex
    simp only [Nat.zero_mul, sg_zero]
    go_enter Tryz.func64, Tryz.ntmps64
    go_wp2
    exact bodyPost_ret (v := .agg #[.bool neg, .slice A xs.length c, .int .i64 e]) (by simp [results, Tryz.results64, go_sem]) rfl ⟨[.bool neg, .slice A xs.length c, .int .i64 e], rfl, ⟨neg, 0, e, _, rfl, mRd.below HM.out (hb _ _), fun h => absurd rfl h, heb, by rw [Nat.zero_mul, sg_zero]⟩, hb _ _⟩
end Go.Proofs.YtcfejobdgiiihaaGreatDoor

namespace Go.Proofs.YtcfejobdgiiihaaGreatDoor
open Go.RowKit

/-! ### two numbers brought to one power of 2 -/
/-- what 'level' hands back -/
def Levelled (w : World) (base K : Nat) (X Y : Int) (mx my : Nat) (nx ny : Bool) (va vb : Value) (e : Int) : Prop :=
  ∃ ma mb : Nat, mRd.R w base ma [va] ∧ mRd.R w base mb [vb] ∧ (ma = 0 ↔ mx = 0) ∧ (mb = 0 ↔ my = 0) ∧ (mx ≠ 0 → my ≠ 0 → 0 ≤ e + K ∧ e ≤ 1099511627776 ∧ X = sg nx (ma * 2 ^ (e + K).toNat) ∧ Y = sg ny (mb * 2 ^ (e + K).toNat))
set_option maxHeartbeats 1000000 in
theorem level_calls (K base L : Nat) (ex ey : Int) (mx my : Nat) (nx ny : Bool) (vx vy : Value) (w : World) (hx : mRd.R w base mx [vx]) (hy : mRd.R w base my [vy])
    (hex : mx ≠ 0 → 0 ≤ ex + K) (hey : my ≠ 0 → 0 ≤ ey + K) (hbx : -1099511627776 ≤ ex ∧ ex ≤ 1099511627776) (hby : -1099511627776 ≤ ey ∧ ey ≤ 1099511627776)
    (hX : (sg nx (mx * 2 ^ (ex + K).toNat)).natAbs < 2 ^ L) (hY : (sg ny (my * 2 ^ (ey + K).toNat)).natAbs < 2 ^ L) (hL : L ≤ 1073741824) :
    Calls Tryz.prog 59 #[.agg #[.bool nx, vx, .int .i64 ex], .agg #[.bool ny, vy, .int .i64 ey]] w fun r w' =>
      ∃ va vb e, r = .returned (.tuple #[va, vb, .int .i64 e]) ∧ Levelled w' base K (sg nx (mx * 2 ^ (ex + K).toNat)) (sg ny (my * 2 ^ (ey + K).toNat)) mx my nx ny va vb e ∧ Below w.heap.size w w' := by
  have HX := Lib.hid hx
  have HY := Lib.hid hy
  obtain ⟨xs, A, ca, hv, hca, hxr, hxt, hxv⟩ := hx
  obtain ⟨ys, B, cb, hv', hcb, hyr, hyt, hyv⟩ := hy
  cases hv
  cases hv'
  have hzx := hxt.nil_iff (B := B32) (by decide)
  have hzy := hyt.nil_iff (B := B32) (by decide)
  rw [hxv] at hzx
  rw [hyv] at hzy
  have hlx : mx ≠ 0 → xs.length ≤ 1099511627776 := fun h => by have := man_len hxt hxv (man_lt hX); omega
  have hly : my ≠ 0 → ys.length ≤ 1099511627776 := fun h => by have := man_len hyt hyv (man_lt hY); omega
  by_cases h0 : mx = 0
  · have h1 : ((xs.length : Int) == 0) = true := by simp; exact List.length_eq_zero_iff.1 (hzx.2 h0)
    clear hzx hzy hxv hyv hxt hyt hxr hyr hex hey hX hY hlx hly
    go_enter Tryz.func59, Tryz.ntmps59
    go_wp2
    go_quiet (fail)
    go_wp2
    go_ret3
    have hb : Below w.heap.size w (((w.alloc (.cells #[.bool nx, .slice A xs.length ca, .int .i64 ex] 72)).alloc (.cells #[.bool ny, .slice B ys.length cb, .int .i64 ey] 72)).drewN nq) := below_drewN (below_new (below_new (Below.refl _ _) _) _) _
    exact ⟨_, _, _, rfl, ⟨0, my, mRd_nil _ _ _ _, mRd.below HY.out hb, ⟨fun _ => h0, fun _ => rfl⟩, Iff.rfl, fun h => absurd h0 h⟩, hb⟩
  · have h1 : ((xs.length : Int) == 0) = false := by simp; exact fun h => h0 (hzx.1 (by rw [h]; rfl))
    by_cases h2 : my = 0
    · have h3 : ((ys.length : Int) == 0) = true := by simp; exact List.length_eq_zero_iff.1 (hzy.2 h2)
      clear hzx hzy hxv hyv hxt hyt hxr hyr hex hey hX hY hlx hly
      go_enter Tryz.func59, Tryz.ntmps59
      go_wp2
      go_quiet (fail)
      go_wp2
      go_ret3
      have hb : Below w.heap.size w (((w.alloc (.cells #[.bool nx, .slice A xs.length ca, .int .i64 ex] 72)).alloc (.cells #[.bool ny, .slice B ys.length cb, .int .i64 ey] 72)).drewN nq) := below_drewN (below_new (below_new (Below.refl _ _) _) _) _
      exact ⟨_, _, _, rfl, ⟨mx, 0, mRd.below HX.out hb, mRd_nil _ _ _ _, Iff.rfl, ⟨fun _ => h2, fun _ => rfl⟩, fun _ h => absurd h2 h⟩, hb⟩
    · have h3 : ((ys.length : Int) == 0) = false := by simp; exact fun h => h2 (hzy.1 (by rw [h]; rfl))
      have hlx := hlx h0
      have hly := hly h2
      have hex := hex h0
      have hey := hey h2
      have hEX := exp_lt h0 hX
      have hEY := exp_lt h2 hY
      clear hX hY hzx hzy
      rcases Int.lt_or_le ey ex with hlt | hle
      · obtain ⟨n, rfl⟩ : ∃ n : Nat, ex = ey + n := ⟨(ex - ey).toNat, by omega⟩
        have hn : n ≤ 1099511627776 := by omega
        have hw : IntKind.i64.wrap (ey + n - ey) = n := by rw [show ey + (n : Int) - ey = n from by omega]; exact IntWalk.i64_in _ (by omega)
        have HV := Lib.hid hxv
        have HR : Hid (∀ W, Below w.heap.size w W → u32.Row 113 W base A xs) := fun W h => hxr.below h
        have HE := Lib.hid hey
        clear hxv hyv hxt hyt hyr hEX hEY hex hey
        go_enter Tryz.func59, Tryz.ntmps59
        go_wp2
        go_region_held3 (fun w' => w'.cell? ⟨w.heap.size, 1, none⟩ = some (.slice A xs.length ca) ∧ w'.cell? ⟨w.heap.size, 2, none⟩ = some (.int .i64 (ey + n)) ∧ w'.cell? ⟨w.heap.size + 1, 1, none⟩ = some (.slice B ys.length cb) ∧ w'.cell? ⟨w.heap.size + 1, 2, none⟩ = some (.int .i64 ey)) (first | go_keep | exact ⟨(hbl.cell (by simp <;> omega)).trans (by go_simp), (hbl.cell (by simp <;> omega)).trans (by go_simp), (hbl.cell (by simp <;> omega)).trans (by go_simp), (hbl.cell (by simp <;> omega)).trans (by go_simp)⟩) ((go_at_call 91; refine (left_calls A _ ca 113 base base n xs _ rfl (HR.out _ (by repeat (first | exact Below.refl _ _ | apply Below.drew | apply below_new))) hlx hn).mono ?_; rintro e w1 ⟨v, rfl, hm, hbl⟩))
        go_wp2
        go_ret3
        have hb2 : Below w.heap.size w w1 := below_next (by repeat (first | exact Below.refl _ _ | apply Below.drew | apply below_new)) hbl
        refine ⟨_, _, _, rfl, ⟨_, my, hm, mRd.below HY.out hb2, ?_, Iff.rfl, fun _ _ => ⟨HE.out, by omega, ?_, rfl⟩⟩, hb2⟩
        · rw [HV.out]; have := Nat.pow_pos (n := n) (show 0 < 2 by decide); simp [Nat.mul_eq_zero]
        · rw [HV.out, Nat.mul_assoc, ← Nat.pow_add, show n + (ey + K).toNat = (ey + n + K).toNat from by have := HE.out; omega]
      · obtain ⟨n, rfl⟩ : ∃ n : Nat, ey = ex + n := ⟨(ey - ex).toNat, by omega⟩
        have hn : n ≤ 1099511627776 := by omega
        have hw : IntKind.i64.wrap (ex + n - ex) = n := by rw [show ex + (n : Int) - ex = n from by omega]; exact IntWalk.i64_in _ (by omega)
        have HV := Lib.hid hyv
        have HR : Hid (∀ W, Below w.heap.size w W → u32.Row 113 W base B ys) := fun W h => hyr.below h
        have HE := Lib.hid hex
        clear hxv hyv hxt hyt hxr hEX hEY hex hey
        go_enter Tryz.func59, Tryz.ntmps59
        go_wp2
        go_region_held3 (fun w' => w'.cell? ⟨w.heap.size, 1, none⟩ = some (.slice A xs.length ca) ∧ w'.cell? ⟨w.heap.size, 2, none⟩ = some (.int .i64 ex) ∧ w'.cell? ⟨w.heap.size + 1, 1, none⟩ = some (.slice B ys.length cb) ∧ w'.cell? ⟨w.heap.size + 1, 2, none⟩ = some (.int .i64 (ex + n))) (first | go_keep | exact ⟨(hbl.cell (by simp <;> omega)).trans (by go_simp), (hbl.cell (by simp <;> omega)).trans (by go_simp), (hbl.cell (by simp <;> omega)).trans (by go_simp), (hbl.cell (by simp <;> omega)).trans (by go_simp)⟩) ((go_at_call 91; refine (left_calls B _ cb 113 base base n ys _ rfl (HR.out _ (by repeat (first | exact Below.refl _ _ | apply Below.drew | apply below_new))) hly hn).mono ?_; rintro e w1 ⟨v, rfl, hm, hbl⟩))
        go_wp2
        go_ret3
        have hb2 : Below w.heap.size w w1 := below_next (by repeat (first | exact Below.refl _ _ | apply Below.drew | apply below_new)) hbl
        refine ⟨_, _, _, rfl, ⟨mx, _, mRd.below HX.out hb2, hm, Iff.rfl, ?_, fun _ _ => ⟨HE.out, by omega, rfl, ?_⟩⟩, hb2⟩
        · rw [HV.out]; have := Nat.pow_pos (n := n) (show 0 < 2 by decide); simp [Nat.mul_eq_zero]
        · rw [HV.out, Nat.mul_assoc, ← Nat.pow_add, show n + (ex + K).toNat = (ex + n + K).toNat from by have := HE.out; omega]
end Go.Proofs.YtcfejobdgiiihaaGreatDoor
