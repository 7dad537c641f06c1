/- Walks and plain laws of this seat's functions, part 3: R2c. -/
import Derived.Test.YtikdhkmcdmnadaaGreatFmtJ01
import Derived.Test.YtikdhkmcdmnadaaGreatFmtJ02
set_option linter.unusedVariables false
set_option linter.unusedSimpArgs false
namespace Go.Proofs.YtikdhkmcdmnadaaGreatFmt
open Go.RowKit

set_option maxHeartbeats 1000000 in
theorem length_calls (A : Option Addr) (n c t base : Nat) (xs : List Nat) (w : World) (hn : xs.length = n) (hA : u32.Row t w base A xs) (hl : n ≤ 1099511627776) (ht : Trimmed xs) :
    Calls Tryz.prog 35 #[.slice A n c] w fun e w' => e = .returned (.int .i64 (bl (val B32 xs) : Nat)) ∧ w = w' := by
  subst hn
  rcases Nat.eq_zero_or_pos xs.length with h0 | h0
  · rw [List.length_eq_zero_iff.1 h0]
    clear ht
    go_enter Tryz.func35, Tryz.ntmps35
    go_wp2
    go_ret
    exact ⟨rfl, rfl⟩
  · obtain ⟨k, hk⟩ : ∃ k, xs.length = k + 1 := ⟨xs.length - 1, by omega⟩
    obtain ⟨a, x, rfl, hca, hx, hxe⟩ := u32at hA (i := k) (by omega)
    have hx0 : x ≠ 0 := by
      rcases ht with ht | ht
      · rw [ht] at hk; simp at hk
      · rw [show xs.length - 1 = k from by omega, hxe.out] at ht; omega
    have hv := bl_val hk (u32bd hA) hxe.out hx0
    rw [hv]
    have hq2 : (k : Int) ≤ 1099511627776 := by omega
    clear hv ht
    have HX := Lib.hid hx0
    clear hx0
    rw [hk]
    clear hk h0
    have hq : ((k : Int) + 1 == 0) = false := by simp; omega
    go_enter Tryz.func35, Tryz.ntmps35
    go_wp2
    go_loop [3, 4] (fun n y => ∃ (m z : Nat), n = .int .i64 m ∧ y = .int .u32 z ∧ z < 4294967296 ∧ m + bl z = 32 * k + bl x) (fun _ y => (intOf y).toNat)
    case atStart => exact ⟨32 * k, x, by go_num, rfl, hx, rfl⟩
    case round =>
      obtain ⟨m, z, rfl, rfl, hz, hm⟩ := hrel
      have hbx : bl x ≤ 32 := bl_le_of_lt hx
      have hbz : bl z ≤ 32 := bl_le_of_lt hz
      rcases Nat.eq_zero_or_pos z with h1 | h1
      · subst h1
        rw [bl_zero] at hm
        have HM := Lib.hid hm
        clear hm
        go_wp2
        go_ret
        exact ⟨ret_int' (by have := HM.out; omega), rfl⟩
      · have hb := bl_half (x := z) (by omega)
        have HM : Hid (m + 1 + bl (z / 2) = 32 * k + bl x) := by simp only [Hid]; omega
        have hmb : m ≤ 32 * k + 32 := by omega
        clear hm hb hbx hbz
        go_wp2
        go_round
        case rel => exact ⟨m + 1, z / 2, by go_num, by go_num, by omega, HM.out⟩
        case measure => simp [intOf]; omega

theorem or_word {w d : Nat} (hw : w < 4294967296) (hd : d < 4294967296) : bits .or .u64 ((w : Int) * 4294967296) (d : Int) = ((d + 4294967296 * w : Nat) : Int) := by
  have e : (w : Int) * 4294967296 = ((w * 4294967296 : Nat) : Int) := by omega
  rw [e, u64_or_nat _ _ (by omega) (by omega)]
  have := or_add_low (z := d) (y := w * 4294967296) (r := 32) hd (by omega)
  rw [Nat.or_comm, this, Nat.mul_comm]
set_option maxHeartbeats 1000000 in
theorem word_calls (A : Option Addr) (n c t base : Nat) (xs : List Nat) (w : World) (hn : xs.length = n) (hA : u32.Row t w base A xs) (hl : n ≤ 2) :
    Calls Tryz.prog 39 #[.slice A n c] w fun e w' => e = .returned (.int .u64 (val B32 xs : Nat)) ∧ w = w' := by
  subst hn
  go_enter Tryz.func39, Tryz.ntmps39
  go_wp2
  go_loop [3, 4] (fun v i => ∃ (k z : Nat), v = .int .u64 z ∧ i = .int .i64 ((k : Int) - 1) ∧ k ≤ xs.length ∧ z < 18446744073709551616 ∧ (0 < k → z < 4294967296) ∧ Hid (val B32 (xs.drop k) = z)) (fun _ i => (intOf i + 1).toNat)
  case atStart => exact ⟨xs.length, 0, rfl, rfl, Nat.le_refl _, by omega, fun _ => by omega, by simp [Hid, val]⟩
  case round =>
    obtain ⟨k, z, rfl, rfl, hk, hz, hz1, hI⟩ := hrel
    cases k with
    | zero =>
      go_wp2
      go_ret
      exact ⟨ret_int' (by rw [← hI.out]; rfl), rfl⟩
    | succ k =>
      obtain ⟨a, x, rfl, hca, hx, hxe⟩ := u32at hA (i := k) (by omega)
      have hz2 : z < 4294967296 := hz1 (by omega)
      clear hz1
      go_wp2
      go_round
      case rel =>
        refine ⟨k, x + 4294967296 * z, ?_, by go_num, by omega, by omega, ?_, ?_⟩
        · rw [or_word hz2 hx]
        · intro h
          have : z = 0 := by
            rw [← hI.out, List.drop_of_length_le (by omega)]; rfl
          omega
        · rw [Hid, drop_val B32 (by omega), hxe.out, hI.out]
      case measure => simp [intOf]

theorem or_hi {h g : Nat} (hh : h < 4294967296) (hg : g < 4294967296) : bits .or .u64 (h : Int) ((g : Int) * 4294967296) = ((h + 4294967296 * g : Nat) : Int) := by
  have e : (g : Int) * 4294967296 = ((g * 4294967296 : Nat) : Int) := by omega
  rw [e, u64_or_nat _ _ (by omega) (by omega), or_add_low (z := h) (y := g * 4294967296) (r := 32) hh (by omega), Nat.mul_comm]
def restB (v : Nat) : Bool := decide (v ≠ 0)
theorem flag_lo {x r v : Nat} (hx : x < 4294967296) (hr : r < 32) (h : v = 0 ↔ x % 2 ^ r = 0) :
    (bits .and .u32 (x : Int) (((2 : Int) ^ r - 1) % 4294967296) != 0) = restB v := by
  have hb := (shl_bounds hx hr).2.2
  have e1 : (((2 : Int) ^ r - 1) % 4294967296) = ((2 ^ r - 1 : Nat) : Int) := by
    have e : (2 : Int) ^ r = ((2 ^ r : Nat) : Int) := by simp [Int.natCast_pow]
    have hp : 0 < 2 ^ r := Nat.pow_pos (n := r) (show 0 < 2 by decide)
    rw [e]
    generalize 2 ^ r = p at *
    omega
  rw [e1, u32_and_nat _ _ hx (by omega), Nat.and_two_pow_sub_one_eq_mod, Bool.eq_iff_iff]
  simp only [restB, decide_eq_true_eq, bne_iff_ne, ne_eq, h]
  omega
theorem shr_low (x r : Nat) : (x : Int) / 2 ^ r % 4294967296 = ((x / 2 ^ r % 4294967296 : Nat) : Int) := by
  have e : (2 : Int) ^ r = ((2 ^ r : Nat) : Int) := by simp [Int.natCast_pow]
  rw [e, ← Int.natCast_ediv]
  omega
set_option maxHeartbeats 2000000 in
theorem right_out (A : Option Addr) (m c t base b2 n : Nat) (xs : List Nat) (w : World) (hn : xs.length = m) (hA : u32.Row t w base A xs) (hl : m ≤ 1099511627776) (hs : n ≤ 1099511627776) (h2 : xs.length ≤ n / 32) :
    Calls Tryz.prog 55 #[.slice A m c, .int .i64 n] w fun e w' => ∃ v, e = .returned (.tuple #[v, .bool (restB (val B32 xs % 2 ^ n))]) ∧ mRd.R w' b2 (val B32 xs / 2 ^ n) [v] ∧ Below w.heap.size w w' := by
  subst hn
  have hlt := right_all h2 (u32bd hA)
  rw [Nat.mod_eq_of_lt hlt, Nat.div_eq_of_lt hlt]
  clear hlt
  go_enter Tryz.func55, Tryz.ntmps55
  go_wp2
  go_loop [6, 7] (fun r i => ∃ k : Nat, i = .int .i64 k ∧ k ≤ xs.length ∧ k ≤ n / 32 ∧ r = .bool (restB (val B32 (xs.take k)))) (fun _ i => xs.length - (intOf i).toNat)
  case atStart => exact ⟨0, rfl, by omega, by omega, rfl⟩
  case round =>
    obtain ⟨k, rfl, hk, hkn, rfl⟩ := hrel
    by_cases h1 : k < xs.length ∧ k < n / 32
    · obtain ⟨h1, h2⟩ := h1
      obtain ⟨a, x, rfl, hca, hx, hxe⟩ := u32at hA h1
      have hv := val_zero_step (B := B32) (by decide) h1
      rw [hxe.out] at hv
      by_cases h0 : val B32 (xs.take k) = 0
      · have e1 : restB (val B32 (xs.take k)) = false := by simp [restB, h0]
        rw [e1]
        by_cases h3 : x = 0
        · subst h3
          have HV : Hid (val B32 (xs.take (k + 1)) = 0) := hv.2 ⟨h0, rfl⟩
          clear hv h0 e1
          go_wp2
          go_round
          case rel => exact ⟨k + 1, by go_num, by omega, by omega, by rw [HV.out]; rfl⟩
          case measure => simp [intOf]; omega
        · have HV : Hid (val B32 (xs.take (k + 1)) ≠ 0) := fun h => h3 (hv.1 h).2
          clear hv h0 e1
          go_wp2
          go_round
          case rel => exact ⟨k + 1, by go_num, by omega, by omega, by simp [restB, HV.out, h3]⟩
          case measure => simp [intOf]; omega
      · have e1 : restB (val B32 (xs.take k)) = true := by simp [restB, h0]
        rw [e1]
        have HV : Hid (val B32 (xs.take (k + 1)) ≠ 0) := fun h => h0 (hv.1 h).1
        clear hv h0 e1
        go_wp2
        go_round
        case rel => exact ⟨k + 1, by go_num, by omega, by omega, by simp [restB, HV.out]⟩
        case measure => simp [intOf]; omega
    · obtain rfl : k = xs.length := by omega
      rw [List.take_of_length_le (Nat.le_refl _)]
      go_wp2
      go_ret2
      exact ⟨_, rfl, mRd_nil _ _ _ _, Below.refl _ _⟩

set_option maxHeartbeats 2000000 in
theorem right_in (A : Option Addr) (m c t base b2 n : Nat) (xs : List Nat) (w : World) (hn : xs.length = m) (hA : u32.Row t w base A xs) (hl : m ≤ 1099511627776) (hs : n ≤ 1099511627776) (h2 : n / 32 < xs.length) :
    Calls Tryz.prog 55 #[.slice A m c, .int .i64 n] w fun e w' => ∃ v, e = .returned (.tuple #[v, .bool (restB (val B32 xs % 2 ^ n))]) ∧ mRd.R w' b2 (val B32 xs / 2 ^ n) [v] ∧ Below w.heap.size w w' := by
  subst hn
  have hm := fun W => make32 (n := xs.length - n / 32) W (by omega)
  rw [show ((xs.length - n / 32 : Nat) : Int) = (xs.length : Int) - (n : Int) / 32 from by omega] at hm
  have HB := Lib.hid (u32bd hA)
  have HR := Lib.hid (right_rest h2 HB.out)
  rw [right_floor (by omega) HB.out]
  go_enter Tryz.func55, Tryz.ntmps55
  go_wp2
  go_loop [6, 7] (fun r i => ∃ k : Nat, i = .int .i64 k ∧ k ≤ xs.length ∧ k ≤ n / 32 ∧ r = .bool (restB (val B32 (xs.take k)))) (fun _ i => xs.length - (intOf i).toNat)
  case atStart => exact ⟨0, rfl, by omega, by omega, rfl⟩
  case round =>
    obtain ⟨k, rfl, hk, hkn, rfl⟩ := hrel
    by_cases h1 : k < n / 32
    · have h1' : k < xs.length := by omega
      obtain ⟨a, x, rfl, hca, hx, hxe⟩ := u32at hA h1'
      have hv := val_zero_step (B := B32) (by decide) h1'
      rw [hxe.out] at hv
      by_cases h0 : val B32 (xs.take k) = 0
      · have e1 : restB (val B32 (xs.take k)) = false := by simp [restB, h0]
        rw [e1]
        by_cases h3 : x = 0
        · subst h3
          have HV : Hid (val B32 (xs.take (k + 1)) = 0) := hv.2 ⟨h0, rfl⟩
          clear hv h0 e1
          go_wp2
          go_round
          case rel => exact ⟨k + 1, by go_num, by omega, by omega, by rw [HV.out]; rfl⟩
          case measure => simp [intOf]; omega
        · have HV : Hid (val B32 (xs.take (k + 1)) ≠ 0) := fun h => h3 (hv.1 h).2
          clear hv h0 e1
          go_wp2
          go_round
          case rel => exact ⟨k + 1, by go_num, by omega, by omega, by simp [restB, HV.out, h3]⟩
          case measure => simp [intOf]; omega
      · have e1 : restB (val B32 (xs.take k)) = true := by simp [restB, h0]
        rw [e1]
        have HV : Hid (val B32 (xs.take (k + 1)) ≠ 0) := fun h => h0 (hv.1 h).1
        clear hv h0 e1
        go_wp2
        go_round
        case rel => exact ⟨k + 1, by go_num, by omega, by omega, by simp [restB, HV.out]⟩
        case measure => simp [intOf]; omega
    · obtain rfl : k = n / 32 := by omega
      obtain ⟨a, x, rfl, hca, hx, hxe⟩ := u32at hA h2
      have HR2 := HR
      rw [hxe.out] at HR2
      have hq1 : 0 ≤ (n : Int) / 32 := by omega
      have hq2 : (n : Int) / 32 < (xs.length : Int) := by omega
      have hq3 : ((n : Int) / 32).toNat = n / 32 := by omega
      by_cases h0 : val B32 (xs.take (n / 32)) = 0
      · have e1 : restB (val B32 (xs.take (n / 32))) = false := by simp [restB, h0]
        rw [e1]
        have HF := Lib.hid (flag_lo hx (Nat.mod_lt n (show 0 < 32 by decide)) (HR2.out.trans (and_iff_right h0)))
        clear h0 e1
        go_wp2
        go_quiet (fail)
        go_wp2
        clear hq1 hq2 hq3 hm
        go_loopw [9] (fun i wr => ∃ (k : Nat) (zs : List Nat), i = .int .i64 k ∧ k ≤ xs.length - n / 32 ∧ Hid (RightInv B32 (xs.drop (n / 32)) (n % 32) k zs) ∧ Hid (Blk wr w.heap.size 58 (i32s zs)) ∧ Hid (Below w.heap.size w wr)) (fun i _ => (xs.length - n / 32) - (intOf i).toNat)
        case atStart => exact ⟨0, _, rfl, by omega, RightInv.start _ (by decide) _ _, by rw [List.length_drop, ← made32]; exact Blk.new _ _ _, below_new (below_drewN (Below.refl _ _) _) _⟩
        case round =>
          obtain ⟨k, zs, rfl, hk, hI, hZ, hW⟩ := hrel
          have hzl := hI.out.1
          rw [List.length_drop] at hzl
          by_cases hlt : k < xs.length - n / 32
          · obtain ⟨a', h, ha', hch, hhb, hhe⟩ := u32at (hA.below hW.out) (i := k + n / 32) (by omega)
            cases ha'
            have hhe2 : Hid ((xs.drop (n / 32)).getD k 0 = h) := by simp only [Hid, List.getD_eq_getElem?_getD, List.getElem?_drop]; rw [Nat.add_comm, ← List.getD_eq_getElem?_getD]; exact hhe.out
            obtain ⟨z, hz1, hz2, _, _⟩ := hZ.out.at32 (i := k) (by omega) hI.out.2.1
            by_cases hg : k + n / 32 + 1 < xs.length
            · obtain ⟨a', g, ha', hcg, hgb, hge⟩ := u32at (hA.below hW.out) hg
              cases ha'
              have hge2 : Hid ((xs.drop (n / 32)).getD (k + 1) 0 = g) := by simp only [Hid, List.getD_eq_getElem?_getD, List.getElem?_drop]; rw [show n / 32 + (k + 1) = k + n / 32 + 1 from by omega, ← List.getD_eq_getElem?_getD]; exact hge.out
              have hcg2 := cell_succ hcg (by omega)
              go_wp2
              go_roundw
              case rel => exact ⟨k + 1, _, by go_num, by omega, RightInv.step (h := h) (g := g) (Nat.mod_lt _ (by decide)) hI.out (by simp; omega) hhe2.out hhb hge2.out, hZ.out.set32 _ _ _ (by rw [or_hi hhb hgb]; exact shr_low _ _), hW.out.setCell (Nat.le_refl _) _⟩
              case measure => simp [intOf]; omega
            · have hge2 : Hid ((xs.drop (n / 32)).getD (k + 1) 0 = 0) := by rw [Hid, getD_ge]; simp; omega
              go_wp2
              go_roundw
              case rel => exact ⟨k + 1, _, by go_num, by omega, RightInv.step (h := h) (g := 0) (Nat.mod_lt _ (by decide)) hI.out (by simp; omega) hhe2.out hhb hge2.out, hZ.out.set32 _ _ _ (shr_low _ _), hW.out.setCell (Nat.le_refl _) _⟩
              case measure => simp [intOf]; omega
          · obtain rfl : k = xs.length - n / 32 := by omega
            have hI2 := hI.out
            rw [← List.length_drop] at hI2
            have hd := hI2.done
            go_wp2_with fail
            refine (trim_calls _ _ _ 58 0 zs _ hzl (u32all hZ.out hI.out.2.1) (by omega) (Nat.le_refl _)).mono ?_
            rintro e w' ⟨rfl, rfl⟩
            have HH := Lib.hid (mRd_trim (base := b2) hZ.out hI.out.2.1 hzl (Nat.le_refl _) hd)
            clear hd hI2
            go_wp2
            go_ret2
            exact ⟨_, by rw [HF.out]; rfl, HH.out, hW.out⟩
      · have e1 : restB (val B32 (xs.take (n / 32))) = true := by simp [restB, h0]
        rw [e1]
        have HF : Hid (restB (val B32 xs % 2 ^ n) = true) := by
          have : ¬ val B32 xs % 2 ^ n = 0 := fun h => h0 (HR2.out.1 h).1
          simp only [Hid, restB, decide_eq_true_eq]; exact this
        clear h0 e1
        go_wp2
        go_quiet (fail)
        go_wp2
        clear hq1 hq2 hq3 hm
        go_loopw [9] (fun i wr => ∃ (k : Nat) (zs : List Nat), i = .int .i64 k ∧ k ≤ xs.length - n / 32 ∧ Hid (RightInv B32 (xs.drop (n / 32)) (n % 32) k zs) ∧ Hid (Blk wr w.heap.size 58 (i32s zs)) ∧ Hid (Below w.heap.size w wr)) (fun i _ => (xs.length - n / 32) - (intOf i).toNat)
        case atStart => exact ⟨0, _, rfl, by omega, RightInv.start _ (by decide) _ _, by rw [List.length_drop, ← made32]; exact Blk.new _ _ _, below_new (below_drewN (Below.refl _ _) _) _⟩
        case round =>
          obtain ⟨k, zs, rfl, hk, hI, hZ, hW⟩ := hrel
          have hzl := hI.out.1
          rw [List.length_drop] at hzl
          by_cases hlt : k < xs.length - n / 32
          · obtain ⟨a', h, ha', hch, hhb, hhe⟩ := u32at (hA.below hW.out) (i := k + n / 32) (by omega)
            cases ha'
            have hhe2 : Hid ((xs.drop (n / 32)).getD k 0 = h) := by simp only [Hid, List.getD_eq_getElem?_getD, List.getElem?_drop]; rw [Nat.add_comm, ← List.getD_eq_getElem?_getD]; exact hhe.out
            obtain ⟨z, hz1, hz2, _, _⟩ := hZ.out.at32 (i := k) (by omega) hI.out.2.1
            by_cases hg : k + n / 32 + 1 < xs.length
            · obtain ⟨a', g, ha', hcg, hgb, hge⟩ := u32at (hA.below hW.out) hg
              cases ha'
              have hge2 : Hid ((xs.drop (n / 32)).getD (k + 1) 0 = g) := by simp only [Hid, List.getD_eq_getElem?_getD, List.getElem?_drop]; rw [show n / 32 + (k + 1) = k + n / 32 + 1 from by omega, ← List.getD_eq_getElem?_getD]; exact hge.out
              have hcg2 := cell_succ hcg (by omega)
              go_wp2
              go_roundw
              case rel => exact ⟨k + 1, _, by go_num, by omega, RightInv.step (h := h) (g := g) (Nat.mod_lt _ (by decide)) hI.out (by simp; omega) hhe2.out hhb hge2.out, hZ.out.set32 _ _ _ (by rw [or_hi hhb hgb]; exact shr_low _ _), hW.out.setCell (Nat.le_refl _) _⟩
              case measure => simp [intOf]; omega
            · have hge2 : Hid ((xs.drop (n / 32)).getD (k + 1) 0 = 0) := by rw [Hid, getD_ge]; simp; omega
              go_wp2
              go_roundw
              case rel => exact ⟨k + 1, _, by go_num, by omega, RightInv.step (h := h) (g := 0) (Nat.mod_lt _ (by decide)) hI.out (by simp; omega) hhe2.out hhb hge2.out, hZ.out.set32 _ _ _ (shr_low _ _), hW.out.setCell (Nat.le_refl _) _⟩
              case measure => simp [intOf]; omega
          · obtain rfl : k = xs.length - n / 32 := by omega
            have hI2 := hI.out
            rw [← List.length_drop] at hI2
            have hd := hI2.done
            go_wp2_with fail
            refine (trim_calls _ _ _ 58 0 zs _ hzl (u32all hZ.out hI.out.2.1) (by omega) (Nat.le_refl _)).mono ?_
            rintro e w' ⟨rfl, rfl⟩
            have HH := Lib.hid (mRd_trim (base := b2) hZ.out hI.out.2.1 hzl (Nat.le_refl _) hd)
            clear hd hI2
            go_wp2
            go_ret2
            exact ⟨_, by rw [HF.out]; rfl, HH.out, hW.out⟩
theorem right_calls (A : Option Addr) (m c t base b2 n : Nat) (xs : List Nat) (w : World) (hn : xs.length = m) (hA : u32.Row t w base A xs) (hl : m ≤ 1099511627776) (hs : n ≤ 1099511627776) :
    Calls Tryz.prog 55 #[.slice A m c, .int .i64 n] w fun e w' => ∃ v, e = .returned (.tuple #[v, .bool (restB (val B32 xs % 2 ^ n))]) ∧ mRd.R w' b2 (val B32 xs / 2 ^ n) [v] ∧ Below w.heap.size w w' := by
  subst hn
  rcases Nat.lt_or_ge (n / 32) xs.length with h | h
  · exact right_in A _ c t base b2 n xs w rfl hA hl hs h
  · exact right_out A _ c t base b2 n xs w rfl hA hl hs h
end Go.Proofs.YtikdhkmcdmnadaaGreatFmt
