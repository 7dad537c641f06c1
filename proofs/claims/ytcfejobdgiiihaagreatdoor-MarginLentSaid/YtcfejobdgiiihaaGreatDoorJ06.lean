/- Walks and plain laws of this seat's functions, part 6: N14 N15 N16 N17 N18 N19 N20. -/
import Derived.LaidEqlPtr
import Derived.Test.YtcfejobdgiiihaaGreatDoorJ03
import Derived.Test.YtcfejobdgiiihaaGreatDoorJ05
set_option linter.unusedVariables false
set_option linter.unusedSimpArgs false
namespace Go.Proofs.YtcfejobdgiiihaaGreatDoor
open Go.RowKit

theorem cell_zero {w : World} {a : Addr} {v : Option Value} (h : w.cell? (a.add 0) = v) : w.cell? a = v := by simpa [Addr.add] using h
set_option maxHeartbeats 2000000 in
theorem ncmp_same (A B : Option Addr) (n ca cb t1 t2 base b3 : Nat) (xs ys : List Nat) (w : World) (hn : xs.length = n) (hm : ys.length = n) (hA : u64.Row t1 w base A xs) (hB : u64.Row t2 w b3 B ys) (hx : n ≤ 1099511627776) (h0 : 0 < n) :
    Calls Tryz.prog 121 #[.slice A n ca, .slice B n cb] w fun e w' => e = .returned (.int .i64 (cmpN (val B64 xs) (val B64 ys))) ∧ ∃ q, w' = w.drewN q := by
  have hbx := u64bd hA
  have hby := u64bd hB
  have HX := Lib.hid hbx
  have HY := Lib.hid hby
  clear hbx hby
  have hlz : ((n : Int) == 0) = false := by simp; omega
  have hw1 : (n : Int) - 1 = ((n - 1 : Nat) : Int) := by omega
  go_enter Tryz.func121, Tryz.ntmps121
  go_wp2
  go_loopw [7] (fun i wr => ∃ (k : Nat), i = .int .i64 (k : Int) ∧ k < n ∧ Hid (cmpN (val B64 (xs.take (k + 1))) (val B64 (ys.take (k + 1))) = cmpN (val B64 xs) (val B64 ys)) ∧ Hid (∃ q, wr = w.drewN q)) (fun i _ => (intOf i).toNat)
  case atStart => exact ⟨n - 1, rfl, by omega, by rw [show n - 1 + 1 = n from by omega, List.take_of_length_le (by omega), List.take_of_length_le (by omega)]; rfl, ⟨0, rfl⟩⟩
  case round =>
    obtain ⟨k, rfl, hk, hI, hQ⟩ := hrel
    obtain ⟨q, rfl⟩ := hQ.out
    have hD : Below w.heap.size w (w.drewN q) := below_drewN (Below.refl _ _) q
    obtain ⟨a, x, rfl, hca, hxb, hxe⟩ := u64at hA (i := k) (by omega)
    obtain ⟨b, y, rfl, hcb, hyb, hye⟩ := u64at hB (i := k) (by omega)
    have hlk : (k : Int) < (n : Int) := by omega
    have hl0 : (0 : Int) ≤ (k : Int) := by omega
    have hex : ∀ z : Int, z = cmpN x y → (x = y → k = 0) → z = cmpN (val B64 xs) (val B64 ys) := by
      intro z hz h0
      rw [← hI.out]
      rcases Nat.lt_trichotomy x y with h | h | h
      · rw [hz, cmpN_lt h, cmpN_lt (top_lt (by decide) HX.out (by omega) (by omega) (by rw [hxe.out, hye.out]; exact h))]
      · obtain rfl := h0 h
        rw [cmp_top (by omega) (by omega) (by rw [hxe.out, hye.out]; exact h), hz, h, cmpN_eq, List.take_zero, List.take_zero, cmpN_eq]
      · rw [hz, cmpN_gt h, cmpN_gt (top_lt (by decide) HY.out (by omega) (by omega) (by rw [hxe.out, hye.out]; exact h))]
    have HEX := Lib.hid hex
    clear hex
    rcases Nat.lt_trichotomy x y with h | h | h
    · have hz := Lib.hid (HEX.out (-1) (by rw [cmpN_lt h]) (by omega))
      cases k with
      | zero =>
        have hca0 := cell_zero hca
        have hcb0 := cell_zero hcb
        go_wp2
        go_quiet (fail)
        go_wp2
        go_quiet (fail)
        go_wp2
        go_ret
        exact ⟨ret_int' hz.out, _, by simp only [drewN_drewN]; rfl⟩
      | succ k =>
        have hcas := cell_succ hca (by omega)
        have hcbs := cell_succ hcb (by omega)
        have hl1 : (0 : Int) ≤ (k : Int) + 1 := by omega
        have hl2 : (k : Int) + 1 < (n : Int) := by omega
        have hl3 : ((k : Int) + 1).toNat = k + 1 := by omega
        go_wp2
        go_quiet (fail)
        go_wp2
        go_quiet (fail)
        go_wp2
        go_ret
        exact ⟨ret_int' hz.out, _, by simp only [drewN_drewN]; rfl⟩
    · subst h
      cases k with
      | zero =>
        have hca0 := cell_zero hca
        have hcb0 := cell_zero hcb
        have hz := Lib.hid (HEX.out 0 (by rw [cmpN_eq]) (fun _ => rfl))
        go_wp2
        go_quiet (fail)
        go_wp2
        go_quiet (fail)
        go_wp2
        go_quiet (fail)
        go_wp2
        go_ret
        exact ⟨ret_int' hz.out, _, by simp only [drewN_drewN]; rfl⟩
      | succ k =>
        have hcas := cell_succ hca (by omega)
        have hcbs := cell_succ hcb (by omega)
        have hl1 : (0 : Int) ≤ (k : Int) + 1 := by omega
        have hl2 : (k : Int) + 1 < (n : Int) := by omega
        have hl3 : ((k : Int) + 1).toNat = k + 1 := by omega
        go_wp2
        go_quiet (fail)
        go_wp2
        go_roundw
        case rel => exact ⟨k, by go_num, by omega, (cmp_top (by omega) (by omega) (by rw [hxe.out, hye.out])).symm.trans hI.out, ⟨_, rfl⟩⟩
        case measure => simp [intOf]
    · have hz := Lib.hid (HEX.out 1 (by rw [cmpN_gt h]) (by omega))
      cases k with
      | zero =>
        have hca0 := cell_zero hca
        have hcb0 := cell_zero hcb
        go_wp2
        go_quiet (fail)
        go_wp2
        go_quiet (fail)
        go_wp2
        go_quiet (fail)
        go_wp2
        go_ret
        exact ⟨ret_int' hz.out, _, by simp only [drewN_drewN]; rfl⟩
      | succ k =>
        have hcas := cell_succ hca (by omega)
        have hcbs := cell_succ hcb (by omega)
        have hl1 : (0 : Int) ≤ (k : Int) + 1 := by omega
        have hl2 : (k : Int) + 1 < (n : Int) := by omega
        have hl3 : ((k : Int) + 1).toNat = k + 1 := by omega
        go_wp2
        go_quiet (fail)
        go_wp2
        go_quiet (fail)
        go_wp2
        go_quiet (fail)
        go_wp2
        go_ret
        exact ⟨ret_int' hz.out, _, by simp only [drewN_drewN]; rfl⟩
end Go.Proofs.YtcfejobdgiiihaaGreatDoor

namespace Go.Proofs.YtcfejobdgiiihaaGreatDoor
open Go.RowKit

theorem bl_shr {x k : Nat} (h : 2 ^ k ≤ x) : bl x = k + bl (x / 2 ^ k) := by
  have h0 : x / 2 ^ k ≠ 0 := by
    have := Nat.div_le_div_right (c := 2 ^ k) h
    rw [Nat.div_self (Nat.pow_pos (by decide))] at this; omega
  have h1 := bl_low (lo := x % 2 ^ k) h0 (k := k) (Nat.mod_lt _ (Nat.pow_pos (by decide)))
  rw [Nat.mod_add_div] at h1; exact h1
theorem dep256 {P : (x : Nat) → (x : Int) < 256 → Prop} (h : ∀ i : Fin 256, P i.val (by have := i.2; omega)) : ∀ x hc, P x hc := fun x hc => h ⟨x, by omega⟩
set_option maxHeartbeats 4000000 in
set_option maxRecDepth 100000 in
theorem len64_calls (x : Nat) (w : World) (hx : x < 18446744073709551616) : Calls Tryz.prog 145 #[.int .u64 x] w fun e w' => e = .returned (.int .i64 (bl x : Nat)) ∧ w = w' := by
  by_cases h32 : 4294967296 ≤ x
  · have i32 : (4294967296 : Int) ≤ x := by omega
    obtain ⟨x32, hx32⟩ : ∃ x32, x32 = x / 4294967296 := ⟨_, rfl⟩
    have gx32 : (x : Int) / 4294967296 = (x32 : Int) := by omega
    have bx32 : bl x = 32 + bl x32 := by rw [hx32]; exact bl_shr (k := 32) (by omega)
    by_cases h16 : 65536 ≤ x32
    · have i16 : (65536 : Int) ≤ x32 := by omega
      obtain ⟨x16, hx16⟩ : ∃ x16, x16 = x32 / 65536 := ⟨_, rfl⟩
      have gx16 : (x32 : Int) / 65536 = (x16 : Int) := by omega
      have bx16 : bl x32 = 16 + bl x16 := by rw [hx16]; exact bl_shr (k := 16) (by omega)
      by_cases h8 : 256 ≤ x16
      · have i8 : (256 : Int) ≤ x16 := by omega
        obtain ⟨x8, hx8⟩ : ∃ x8, x8 = x16 / 256 := ⟨_, rfl⟩
        have gx8 : (x16 : Int) / 256 = (x8 : Int) := by omega
        have bx8 : bl x16 = 8 + bl x8 := by rw [hx8]; exact bl_shr (k := 8) (by omega)
        have hL : Hid (bl x = 56 + bl x8) := by simp only [Hid]; omega
        have hc : (x8 : Int) < 256 := by omega
        try clear h32
        try clear h16
        try clear h8
        clear bx32 hx32 bx16 hx16 bx8 hx8
        clear hx
        go_enter Tryz.func145, Tryz.ntmps145
        go_wp2
        go_ret
        refine ⟨ret_int' ?_, rfl⟩
        rw [hL.out]
        clear hL
        try clear gx32
        try clear gx16
        try clear gx8
        try clear i32
        try clear i16
        revert x8
        refine dep256 ?_
        decide +kernel
      · have i8 : ¬ (256 : Int) ≤ x16 := by omega
        have hL : Hid (bl x = 48 + bl x16) := by simp only [Hid]; omega
        have hc : (x16 : Int) < 256 := by omega
        try clear h32
        try clear h16
        try clear h8
        clear bx32 hx32 bx16 hx16
        clear hx
        go_enter Tryz.func145, Tryz.ntmps145
        go_wp2
        go_ret
        refine ⟨ret_int' ?_, rfl⟩
        rw [hL.out]
        clear hL
        try clear gx32
        try clear gx16
        try clear gx8
        try clear i32
        try clear i16
        revert x16
        refine dep256 ?_
        decide +kernel
    · have i16 : ¬ (65536 : Int) ≤ x32 := by omega
      by_cases h8 : 256 ≤ x32
      · have i8 : (256 : Int) ≤ x32 := by omega
        obtain ⟨x8, hx8⟩ : ∃ x8, x8 = x32 / 256 := ⟨_, rfl⟩
        have gx8 : (x32 : Int) / 256 = (x8 : Int) := by omega
        have bx8 : bl x32 = 8 + bl x8 := by rw [hx8]; exact bl_shr (k := 8) (by omega)
        have hL : Hid (bl x = 40 + bl x8) := by simp only [Hid]; omega
        have hc : (x8 : Int) < 256 := by omega
        try clear h32
        try clear h16
        try clear h8
        clear bx32 hx32 bx8 hx8
        clear hx
        go_enter Tryz.func145, Tryz.ntmps145
        go_wp2
        go_ret
        refine ⟨ret_int' ?_, rfl⟩
        rw [hL.out]
        clear hL
        try clear gx32
        try clear gx16
        try clear gx8
        try clear i32
        try clear i16
        revert x8
        refine dep256 ?_
        decide +kernel
      · have i8 : ¬ (256 : Int) ≤ x32 := by omega
        have hL : Hid (bl x = 32 + bl x32) := by simp only [Hid]; omega
        have hc : (x32 : Int) < 256 := by omega
        try clear h32
        try clear h16
        try clear h8
        clear bx32 hx32
        clear hx
        go_enter Tryz.func145, Tryz.ntmps145
        go_wp2
        go_ret
        refine ⟨ret_int' ?_, rfl⟩
        rw [hL.out]
        clear hL
        try clear gx32
        try clear gx16
        try clear gx8
        try clear i32
        try clear i16
        revert x32
        refine dep256 ?_
        decide +kernel
  · have i32 : ¬ (4294967296 : Int) ≤ x := by omega
    by_cases h16 : 65536 ≤ x
    · have i16 : (65536 : Int) ≤ x := by omega
      obtain ⟨x16, hx16⟩ : ∃ x16, x16 = x / 65536 := ⟨_, rfl⟩
      have gx16 : (x : Int) / 65536 = (x16 : Int) := by omega
      have bx16 : bl x = 16 + bl x16 := by rw [hx16]; exact bl_shr (k := 16) (by omega)
      by_cases h8 : 256 ≤ x16
      · have i8 : (256 : Int) ≤ x16 := by omega
        obtain ⟨x8, hx8⟩ : ∃ x8, x8 = x16 / 256 := ⟨_, rfl⟩
        have gx8 : (x16 : Int) / 256 = (x8 : Int) := by omega
        have bx8 : bl x16 = 8 + bl x8 := by rw [hx8]; exact bl_shr (k := 8) (by omega)
        have hL : Hid (bl x = 24 + bl x8) := by simp only [Hid]; omega
        have hc : (x8 : Int) < 256 := by omega
        try clear h32
        try clear h16
        try clear h8
        clear bx16 hx16 bx8 hx8
        clear hx
        go_enter Tryz.func145, Tryz.ntmps145
        go_wp2
        go_ret
        refine ⟨ret_int' ?_, rfl⟩
        rw [hL.out]
        clear hL
        try clear gx32
        try clear gx16
        try clear gx8
        try clear i32
        try clear i16
        revert x8
        refine dep256 ?_
        decide +kernel
      · have i8 : ¬ (256 : Int) ≤ x16 := by omega
        have hL : Hid (bl x = 16 + bl x16) := by simp only [Hid]; omega
        have hc : (x16 : Int) < 256 := by omega
        try clear h32
        try clear h16
        try clear h8
        clear bx16 hx16
        clear hx
        go_enter Tryz.func145, Tryz.ntmps145
        go_wp2
        go_ret
        refine ⟨ret_int' ?_, rfl⟩
        rw [hL.out]
        clear hL
        try clear gx32
        try clear gx16
        try clear gx8
        try clear i32
        try clear i16
        revert x16
        refine dep256 ?_
        decide +kernel
    · have i16 : ¬ (65536 : Int) ≤ x := by omega
      by_cases h8 : 256 ≤ x
      · have i8 : (256 : Int) ≤ x := by omega
        obtain ⟨x8, hx8⟩ : ∃ x8, x8 = x / 256 := ⟨_, rfl⟩
        have gx8 : (x : Int) / 256 = (x8 : Int) := by omega
        have bx8 : bl x = 8 + bl x8 := by rw [hx8]; exact bl_shr (k := 8) (by omega)
        have hL : Hid (bl x = 8 + bl x8) := by simp only [Hid]; omega
        have hc : (x8 : Int) < 256 := by omega
        try clear h32
        try clear h16
        try clear h8
        clear bx8 hx8
        clear hx
        go_enter Tryz.func145, Tryz.ntmps145
        go_wp2
        go_ret
        refine ⟨ret_int' ?_, rfl⟩
        rw [hL.out]
        clear hL
        try clear gx32
        try clear gx16
        try clear gx8
        try clear i32
        try clear i16
        revert x8
        refine dep256 ?_
        decide +kernel
      · have i8 : ¬ (256 : Int) ≤ x := by omega
        have hL : Hid (bl x = 0 + bl x) := by simp only [Hid]; omega
        have hc : (x : Int) < 256 := by omega
        try clear h32
        try clear h16
        try clear h8
        clear hx
        go_enter Tryz.func145, Tryz.ntmps145
        go_wp2
        go_ret
        refine ⟨ret_int' ?_, rfl⟩
        rw [hL.out]
        clear hL
        try clear gx32
        try clear gx16
        try clear gx8
        try clear i32
        try clear i16
        revert x
        refine dep256 ?_
        decide +kernel
end Go.Proofs.YtcfejobdgiiihaaGreatDoor

namespace Go.Proofs.YtcfejobdgiiihaaGreatDoor
open Go.RowKit

set_option maxHeartbeats 1000000 in
theorem ncmp_calls (x y : Value) (m1 m2 : Nat) (w : World) (B1 B2 : Nat) (hx : OwnN w B1 m1 x) (hy : OwnN w B2 m2 y) :
    Calls Tryz.prog 121 #[x, y] w fun e w' => e = .returned (.int .i64 (cmpN m1 m2)) ∧ ∃ q, w' = w.drewN q := by
  obtain ⟨A, n, c, xs, rfl, hl, hlc, hcb, hA, ht, hm, hne, hlt⟩ := hx.row
  obtain ⟨A', n', c', ys, rfl, hl', hlc', hcb', hA', ht', hm', hne', hlt'⟩ := hy.row
  have hb1 := u64bd hA
  have hb2 := u64bd hA'
  rcases Nat.lt_trichotomy n n' with h | h | h
  · have hv := val_lt_of_len (B := B64) (by decide) hb1 ht' (by omega)
    rw [hm, hm'] at hv
    rw [cmpN_lt hv]
    have h1 : (n : Int) < (n' : Int) := by omega
    have h2 : ((n : Int) != (n' : Int)) = true := by simp; omega
    clear hb1 hb2 hv hm hm' ht ht'
    go_enter Tryz.func121, Tryz.ntmps121
    go_wp2
    go_ret
    exact ⟨rfl, 0, rfl⟩
  · subst h
    rcases Nat.eq_zero_or_pos n with h0 | h0
    · subst h0
      obtain rfl := List.eq_nil_of_length_eq_zero hl
      obtain rfl := List.eq_nil_of_length_eq_zero hl'
      rw [← hm, ← hm', cmpN_eq]
      clear hb1 hb2 hm hm' ht ht'
      go_enter Tryz.func121, Tryz.ntmps121
      go_wp2
      go_ret
      exact ⟨rfl, 0, rfl⟩
    · rw [← hm, ← hm']
      exact ncmp_same A A' n c c' _ _ _ _ xs ys w hl hl' hA hA' (by omega) h0
  · have hv := val_lt_of_len (B := B64) (by decide) hb2 ht (by omega)
    rw [hm, hm'] at hv
    rw [cmpN_gt hv]
    have h1 : (n' : Int) < (n : Int) := by omega
    have h2 : ((n : Int) != (n' : Int)) = true := by simp; omega
    clear hb1 hb2 hv hm hm' ht ht'
    go_enter Tryz.func121, Tryz.ntmps121
    go_wp2
    go_ret
    exact ⟨rfl, 0, rfl⟩
set_option maxHeartbeats 1000000 in
theorem nsetWord_calls (v : Nat) (hv : v < B64) (w : World) : Calls Tryz.prog 141 #[.slice none 0 0, .int .u64 v] w fun e w' => ∃ u, e = .returned u ∧ OwnN w' w.heap.size v u ∧ Below w.heap.size w w' := by
  rcases Nat.eq_zero_or_pos v with h0 | h0
  · subst h0
    clear hv
    go_enter Tryz.func141, Tryz.ntmps141
    go_wp2
    go_ret
    exact ⟨_, rfl, .inl ⟨rfl, rfl⟩, Below.refl _ _⟩
  · have hz : ((v : Int) == 0) = false := by simp; omega
    have HV := Lib.hid hv
    clear hv
    have HMK := nmake_dest (.slice none 0 0) 0 1 w w.heap.size (.inl ⟨rfl, rfl⟩) (Nat.le_refl _) (by omega) (by omega)
    simp only [Int.natCast_one] at HMK
    replace HMK := Lib.hid HMK
    go_enter Tryz.func141, Tryz.ntmps141
    go_wp2_with fail
    refine HMK.out.mono ?_
    rintro e w1 ⟨g, Z, rfl, hBg, hZ, hZb, hnZ, hZl, hw1, _⟩
    obtain ⟨z, hz1, hz2, _, _⟩ := hZ.at64 (i := 0) (by omega) hZb
    have hb1 := hZ.set64 0 v _ rfl
    have HB := Lib.hid hb1
    have HZB := Lib.hid hZb
    have HW := Lib.hid hw1
    clear hb1 hZ hZb hw1
    obtain ⟨z0, zs, rfl⟩ : ∃ z0 zs, Z = z0 :: zs := by
      cases Z with
      | nil => simp at hnZ
      | cons a b => exact ⟨a, b, rfl⟩
    go_wp2
    go_ret
    refine ⟨_, rfl, .inr ⟨g, v :: zs, 1, rfl, hBg, HB.out, ?_, by simp, by simpa using hZl, .inr ?_, ?_⟩, HW.out.setCell hBg _⟩
    · intro d hd
      rcases List.mem_cons.1 hd with rfl | hd
      · exact HV.out
      · exact HZB.out d (List.mem_cons_of_mem _ hd)
    · simp; omega
    · simp [val]
set_option maxHeartbeats 1000000 in
theorem nsetUint64_calls (v : Nat) (hv : v < B64) (w : World) : Calls Tryz.prog 124 #[.slice none 0 0, .int .u64 v] w fun e w' => ∃ u, e = .returned u ∧ OwnN w' w.heap.size v u ∧ Below w.heap.size w w' := by
  have HC := Lib.hid (nsetWord_calls v hv w)
  clear hv
  go_enter Tryz.func124, Tryz.ntmps124
  go_wp2_with fail
  refine HC.out.mono ?_
  rintro e w1 ⟨u, rfl, hO, hw⟩
  have HO := Lib.hid hO
  clear hO
  go_wp2
  go_ret
  exact ⟨_, rfl, HO.out, hw⟩
set_option maxHeartbeats 1000000 in
theorem low64_calls (x : Value) (m : Nat) (w : World) (B : Nat) (hx : OwnN w B m x) (hm : m < B64) : Calls Tryz.prog 142 #[x] w fun e w' => e = .returned (.int .u64 m) ∧ w = w' := by
  obtain ⟨A, n, c, xs, rfl, hl, hlc, hcb, hA, ht, hv, hne, hlt⟩ := hx.row
  have hn1 : xs.length ≤ 1 := len_le_of_val (B := B64) (by decide) ht (by rw [hv, Nat.pow_one]; exact hm)
  rcases Nat.eq_zero_or_pos n with h0 | h0
  · subst h0
    obtain rfl := List.eq_nil_of_length_eq_zero hl
    obtain rfl : m = 0 := by rw [← hv]; rfl
    clear hm ht hv
    go_enter Tryz.func142, Tryz.ntmps142
    go_wp2
    go_ret
    exact ⟨rfl, rfl⟩
  · obtain rfl : n = 1 := by omega
    obtain ⟨d, rfl⟩ : ∃ d, xs = [d] := by
      cases xs with
      | nil => simp at hl
      | cons d t => cases t with
        | nil => exact ⟨d, rfl⟩
        | cons => simp at hn1
    obtain rfl : m = d := by rw [← hv]; simp [val]
    obtain ⟨a, x, rfl, hca, hxb, hxe⟩ := u64at0 hA (by simp)
    have hx' : x = m := by have := hxe.out; simpa using this.symm
    subst hx'
    clear hm ht hv
    go_enter Tryz.func142, Tryz.ntmps142
    go_wp2
    go_ret
    exact ⟨rfl, rfl⟩
end Go.Proofs.YtcfejobdgiiihaaGreatDoor

namespace Go.Proofs.YtcfejobdgiiihaaGreatDoor
open Go.RowKit

theorem bl_or {x y : Nat} (h : y ≤ x) : bl (x ||| y) = bl x := by
  rcases Nat.eq_zero_or_pos x with h0 | h0
  · subst h0
    obtain rfl : y = 0 := by omega
    rfl
  · have h1 : x ||| y < 2 ^ bl x := Nat.or_lt_two_pow (bl_lt x) (Nat.lt_of_le_of_lt h (bl_lt x))
    have h2 : x ≤ x ||| y := Nat.left_le_or
    have h3 := bl_le (m := x) (by omega)
    have h4 := bl_pos (m := x) (by omega)
    obtain ⟨L, hL⟩ : ∃ L, bl x = L + 1 := ⟨bl x - 1, by omega⟩
    rw [hL] at h1 h3 ⊢
    exact bl_eq h1 (Nat.le_trans h3 h2)
theorem smear (x d : Nat) (hx : x < 18446744073709551616) (D : Int) (hD : D = d) : ∃ y : Nat, bits .or .u64 (x : Int) ((x : Int) / D) = (y : Int) ∧ y < 18446744073709551616 ∧ bl y = bl x := by
  subst hD
  refine ⟨x ||| (x / d), ?_, ?_, bl_or (Nat.div_le_self _ _)⟩
  · rw [← Int.natCast_ediv, u64_or_nat _ _ hx (Nat.lt_of_le_of_lt (Nat.div_le_self _ _) hx)]
  · exact Nat.or_lt_two_pow (n := 64) hx (Nat.lt_of_le_of_lt (Nat.div_le_self _ _) hx)
theorem bl_val64 {xs : List Nat} {k x : Nat} (hl : xs.length = k + 1) (hb : ∀ d ∈ xs, d < B64) (hx : xs.getD k 0 = x) (h0 : x ≠ 0) : bl (val B64 xs) = 64 * k + bl x := by
  have h1 := val_take B64 (xs := xs) (i := k) (by omega)
  rw [List.take_of_length_le (by omega), hx] at h1
  have h2 := val_lt (B := B64) (by decide) (xs.take k) (fun d hd => hb d (List.mem_of_mem_take hd))
  rw [List.length_take, Nat.min_eq_left (by omega), show B64 = 2 ^ 64 from rfl, ← Nat.pow_mul] at h2
  rw [h1, show B64 ^ k = 2 ^ (64 * k) from by rw [show B64 = 2 ^ 64 from rfl, ← Nat.pow_mul]]
  exact bl_low h0 h2
set_option maxHeartbeats 1000000 in
theorem blen_calls (x : Nat) (w : World) (hx : x < 18446744073709551616) : Calls Tryz.prog 127 #[.int .u64 x] w fun e w' => e = .returned (.int .i64 (bl x : Nat)) ∧ w = w' := by
  have HC := Lib.hid (fun W => len64_calls x W hx)
  clear hx
  go_enter Tryz.func127, Tryz.ntmps127
  go_wp2_with fail
  refine (HC.out _).mono ?_
  rintro e w' ⟨rfl, rfl⟩
  go_wp2
  go_ret
  exact ⟨rfl, rfl⟩
set_option maxHeartbeats 1000000 in
theorem nbitLen_calls (x : Value) (m : Nat) (w : World) (B : Nat) (hx : OwnN w B m x) : Calls Tryz.prog 117 #[x] w fun e w' => e = .returned (.int .i64 (bl m : Nat)) ∧ w = w' := by
  obtain ⟨A, n, c, xs, rfl, hl, hlc, hcb, hA, ht, hm, hne, hlt⟩ := hx.row
  rcases Nat.eq_zero_or_pos n with h0 | h0
  · subst h0
    obtain rfl := List.eq_nil_of_length_eq_zero hl
    obtain rfl : m = 0 := by rw [← hm]; rfl
    clear ht hm
    go_enter Tryz.func117, Tryz.ntmps117
    go_wp2
    go_ret
    exact ⟨rfl, rfl⟩
  · obtain ⟨k, rfl⟩ : ∃ k, n = k + 1 := ⟨n - 1, by omega⟩
    obtain ⟨a, d, rfl, hca, hdb, hde⟩ := u64at hA (i := k) (by omega)
    have hd0 : d ≠ 0 := by
      rcases ht with ht | ht
      · rw [ht] at hl; simp at hl
      · rw [show xs.length - 1 = k from by omega, hde.out] at ht; omega
    have hv := bl_val64 hl (u64bd hA) hde.out hd0
    rw [hm] at hv
    obtain ⟨y1, h1, b1, e1⟩ := smear d 2 hdb 2 rfl
    obtain ⟨y2, h2, b2, e2⟩ := smear y1 4 b1 4 rfl
    obtain ⟨y3, h3, b3, e3⟩ := smear y2 16 b2 16 rfl
    obtain ⟨y4, h4, b4, e4⟩ := smear y3 256 b3 256 rfl
    obtain ⟨y5, h5, b5, e5⟩ := smear y4 65536 b4 65536 rfl
    obtain ⟨y6, h6, b6, e6⟩ := smear y5 4294967296 b5 4294967296 rfl
    have h6' : bits .or .u64 (y5 : Int) ((y5 : Int) / 65536 / 65536) = (y6 : Int) := by
      rw [← h6]; congr 1; omega
    have HC := Lib.hid (fun W => blen_calls y6 W b6)
    have HV : Hid (bl m = 64 * k + bl y6) := by simp only [Hid]; omega
    have hbb : bl y6 ≤ 64 := bl_le_of_lt (L := 64) b6
    have hk1 : ((k + 1 : Nat) : Int) - 1 = (k : Int) := by omega
    have hk2 : (k : Int) + 1 - 1 = (k : Int) := by omega
    have hk3 : (0 : Int) ≤ (k : Int) := by omega
    clear ht hm hv hdb b1 b2 b3 b4 b5 b6 e1 e2 e3 e4 e5 e6 h6 hd0
    go_enter Tryz.func117, Tryz.ntmps117
    go_wp2_with fail
    refine (HC.out _).mono ?_
    rintro e w' ⟨rfl, rfl⟩
    go_wp2
    go_ret
    exact ⟨ret_int' (by have := HV.out; omega), rfl⟩
end Go.Proofs.YtcfejobdgiiihaaGreatDoor

namespace Go.Proofs.YtcfejobdgiiihaaGreatDoor
open Go.RowKit

/-- a whole number of math/big that is not below nought: its two cells in a block of their own, its words -/
def IntR (w : World) (b : Nat) (v : Value) (m : Nat) : Prop := Blk w b 149 [.bool false, v] ∧ ∃ B, OwnN w B m v
theorem IntR.keep {w w' : World} {b m : Nat} {v : Value} (h : IntR w b v m) (hb : Below w.heap.size w w') : IntR w' b v m :=
  ⟨h.1.below' hb, by obtain ⟨B, hB⟩ := h.2; exact ⟨B, hB.keep hb⟩⟩
theorem OwnN.below {w w' : World} {B B' m : Nat} {v : Value} (h : OwnN w B m v) (hb : Below B' w w') (hlt : ∀ A n c, v = .slice (some A) n c → A.block < B') : OwnN w' B m v := by
  rcases h with h | ⟨g, Z, n, h1, h2, h3, h4⟩
  · exact .inl h
  · exact .inr ⟨g, Z, n, h1, h2, h3.below hb (hlt _ _ _ h1), h4⟩

theorem OwnN.setCell {w : World} {B m : Nat} {v : Value} (h : OwnN w B m v) {p : Addr} (hp : p.block < B) (u : Value) : OwnN (w.setCell p u) B m v := by
  rcases h with h | ⟨g, Z, n, h1, h2, h3, h4⟩
  · exact .inl h
  · exact .inr ⟨g, Z, n, h1, h2, h3.far (by omega) u, h4⟩
/-- the two cells behind a call that leaves them, then written -/
theorem int_end {w W w2 : World} {bz m : Nat} {a0 a1 v : Value} (hz : Blk w bz 149 [a0, a1]) (hW0 : Below w.heap.size w W) (hW : Below W.heap.size W w2) (hO : OwnN w2 W.heap.size m v) :
    Blk ((w2.setCell ⟨bz, 1, none⟩ v).setCell ⟨bz, 0, none⟩ (.bool false)) bz 149 [.bool false, v] ∧ OwnN ((w2.setCell ⟨bz, 1, none⟩ v).setCell ⟨bz, 0, none⟩ (.bool false)) (bz + 1) m v ∧ Below bz w ((w2.setCell ⟨bz, 1, none⟩ v).setCell ⟨bz, 0, none⟩ (.bool false)) := by
  have hl := hz.lt
  have hl2 := hW0.size
  have h2 : Blk w2 bz 149 [a0, a1] := (hz.below' hW0).below' hW
  refine ⟨(h2.set 1 v).set 0 (.bool false), ((hO.setCell (p := ⟨bz, 1, none⟩) (show bz < _ by omega) _).setCell (p := ⟨bz, 0, none⟩) (show bz < _ by omega) _).lower (by omega), ?_⟩
  have e : Below bz w w2 := (hW0.mono (by omega)).trans (hW.mono (by omega))
  exact (e.setCell (Nat.le_refl _) _).setCell (Nat.le_refl _) _
set_option maxHeartbeats 2000000 in
theorem iRsh_calls (bz bx m n : Nat) (b0 : Bool) (v : Value) (w : World) (hz : Blk w bz 149 [.bool b0, .slice none 0 0]) (hx : IntR w bx v m) (hne : bx ≠ bz) (hn0 : 0 < n) (hn : n ≤ 68719476736) (L : Nat) (hmL : m < B64 ^ L) (hL : L ≤ 4294967296) :
    Calls Tryz.prog 100 #[.pointer (some ⟨bz, 0, none⟩), .pointer (some ⟨bx, 0, none⟩), .int .u64 n] w fun e w' => e = .returned (.pointer (some ⟨bz, 0, none⟩)) ∧ ∃ v', Blk w' bz 149 [.bool false, v'] ∧ OwnN w' (bz + 1) (m / 2 ^ n) v' ∧ Below bz w w' := by
  obtain ⟨hxb, B, hxv⟩ := hx
  have hz0 := hz.cell 0
  have hz1 := hz.cell 1
  have hzf := hz.frozen 0
  have hzf1 := hz.frozen 1
  have hx0 := hxb.cell 0
  have hx1 := hxb.cell 1
  simp only [List.getElem?_cons_zero, List.getElem?_cons_succ] at hz0 hz1 hx0 hx1
  have hzl := hz.lt
  have HZ := Lib.hid hz
  have HC := Lib.hid (fun (W : World) (hW : ∃ q, W = w.drewN q) => nrsh_calls v m n W B (by obtain ⟨q, rfl⟩ := hW; exact hxv) hn0 (by omega) L hmL hL)
  have hne2 : ¬ bz = bx := fun h => hne h.symm
  clear hz hxb hmL hL
  go_enter Tryz.func100, Tryz.ntmps100
  go_wp2
  go_region_with (go_at_call 119; refine (HC.out _ (by first | exact ⟨_, rfl⟩ | exact ⟨1, rfl⟩)).mono ?_; rintro e w2 ⟨v', rfl, hO, hW⟩; have c1 : w2.cell? ⟨bz, 1, none⟩ = some (.slice none 0 0) := (hW.cell (p := ⟨bz, 1, none⟩) hzl).trans hz1; have f1 : w2.frozen? ⟨bz, 1, none⟩ = false := (hW.frozen (p := ⟨bz, 1, none⟩) hzl).trans hzf1; have c0 : w2.cell? ⟨bz, 0, none⟩ = some (.bool b0) := (hW.cell (p := ⟨bz, 0, none⟩) hzl).trans hz0; have f0 : w2.frozen? ⟨bz, 0, none⟩ = false := (hW.frozen (p := ⟨bz, 0, none⟩) hzl).trans hzf; obtain ⟨A', n', c', rfl, _⟩ := hO.shape; have HE := Lib.hid (int_end HZ.out (Below.refl _ _).drew hW hO); clear hO)
  all_goals (
    go_wp2
    go_ret
    exact ⟨rfl, _, HE.out.1, HE.out.2.1, HE.out.2.2⟩)

set_option maxHeartbeats 2000000 in
theorem iLsh_calls (bz bx m n : Nat) (b0 : Bool) (v : Value) (w : World) (hz : Blk w bz 149 [.bool b0, .slice none 0 0]) (hx : IntR w bx v m) (hne : bx ≠ bz) (hn : n ≤ 68719476736) (L : Nat) (hmL : m < B64 ^ L) (hL : L ≤ 4294967296) :
    Calls Tryz.prog 102 #[.pointer (some ⟨bz, 0, none⟩), .pointer (some ⟨bx, 0, none⟩), .int .u64 n] w fun e w' => e = .returned (.pointer (some ⟨bz, 0, none⟩)) ∧ ∃ v', Blk w' bz 149 [.bool false, v'] ∧ OwnN w' (bz + 1) (m * 2 ^ n) v' ∧ Below bz w w' := by
  obtain ⟨hxb, B, hxv⟩ := hx
  have hz0 := hz.cell 0
  have hz1 := hz.cell 1
  have hzf := hz.frozen 0
  have hzf1 := hz.frozen 1
  have hx0 := hxb.cell 0
  have hx1 := hxb.cell 1
  simp only [List.getElem?_cons_zero, List.getElem?_cons_succ] at hz0 hz1 hx0 hx1
  have hzl := hz.lt
  have hxl := hxb.lt
  have HZ := Lib.hid hz
  have HC := Lib.hid (fun (W : World) (hW : ∃ q, W = w.drewN q) => nlsh_calls v m n W B (by obtain ⟨q, rfl⟩ := hW; exact hxv) hn L hmL hL)
  have hne2 : ¬ bz = bx := fun h => hne h.symm
  clear hz hxb hmL hL
  go_enter Tryz.func102, Tryz.ntmps102
  go_wp2
  go_region_with (go_at_call 122; refine (HC.out _ (by first | exact ⟨_, rfl⟩ | exact ⟨1, rfl⟩)).mono ?_; rintro e w2 ⟨v', rfl, hO, hW⟩; have c1 : w2.cell? ⟨bz, 1, none⟩ = some (.slice none 0 0) := (hW.cell (p := ⟨bz, 1, none⟩) hzl).trans hz1; have f1 : w2.frozen? ⟨bz, 1, none⟩ = false := (hW.frozen (p := ⟨bz, 1, none⟩) hzl).trans hzf1; have c0 : w2.cell? ⟨bz, 0, none⟩ = some (.bool b0) := (hW.cell (p := ⟨bz, 0, none⟩) hzl).trans hz0; have d0 : w2.cell? ⟨bx, 0, none⟩ = some (.bool false) := (hW.cell (p := ⟨bx, 0, none⟩) hxl).trans hx0; have f0 : w2.frozen? ⟨bz, 0, none⟩ = false := (hW.frozen (p := ⟨bz, 0, none⟩) hzl).trans hzf; obtain ⟨A', n', c', rfl, _⟩ := hO.shape; have HE := Lib.hid (int_end HZ.out (Below.refl _ _).drew hW hO); clear hO)
  all_goals (
    go_wp2
    go_ret
    exact ⟨rfl, _, HE.out.1, HE.out.2.1, HE.out.2.2⟩)
end Go.Proofs.YtcfejobdgiiihaaGreatDoor

namespace Go.Proofs.YtcfejobdgiiihaaGreatDoor
open Go.RowKit

theorem quiet_sum {P : Program} {f : FuncId} {args : Array Value} {w : World} {a b : Nat} {v : Value}
    (h : Calls P f args (w.drewN (a + b)) fun e w' => e = .returned v ∧ ∃ q, w' = (w.drewN (a + b)).drewN q) : Calls P f args (w.drewN (a + b)) fun e w'' => e = .returned v ∧ ∃ n, w'' = w.drewN (a + n) :=
  h.mono fun _ _ ⟨he, q, hm⟩ => ⟨he, b + q, by rw [hm, drewN_drewN, Nat.add_assoc]⟩
set_option maxHeartbeats 4000000 in
theorem iSub_calls (bz bx bY m1 m2 : Nat) (b0 : Bool) (v1 v2 : Value) (w : World) (hz : Blk w bz 149 [.bool b0, .slice none 0 0]) (hx : IntR w bx v1 m1) (hy : IntR w bY v2 m2) (hnx : bx ≠ bz) (hny : bY ≠ bz) (hle : m2 ≤ m1) (L : Nat) (hmL : m1 < B64 ^ L) (hL : L ≤ 4294967296) :
    Calls Tryz.prog 101 #[.pointer (some ⟨bz, 0, none⟩), .pointer (some ⟨bx, 0, none⟩), .pointer (some ⟨bY, 0, none⟩)] w fun e w' => e = .returned (.pointer (some ⟨bz, 0, none⟩)) ∧ ∃ v', Blk w' bz 149 [.bool false, v'] ∧ OwnN w' (bz + 1) (m1 - m2) v' ∧ Below bz w w' := by
  obtain ⟨hxb, B1, hxv⟩ := hx
  obtain ⟨hyb, B2, hyv⟩ := hy
  have hz0 := hz.cell 0
  have hz1 := hz.cell 1
  have hzf := hz.frozen 0
  have hzf1 := hz.frozen 1
  have hx0 := hxb.cell 0
  have hx1 := hxb.cell 1
  have hy0 := hyb.cell 0
  have hy1 := hyb.cell 1
  simp only [List.getElem?_cons_zero, List.getElem?_cons_succ] at hz0 hz1 hx0 hx1 hy0 hy1
  have hzl := hz.lt
  have hxl := hxb.lt
  have hyl := hyb.lt
  have HZ := Lib.hid hz
  have HCM := Lib.hid (fun (W : World) (hW : ∃ q, W = w.drewN q) => ncmp_calls v1 v2 m1 m2 W B1 B2 (by obtain ⟨q, rfl⟩ := hW; exact hxv) (by obtain ⟨q, rfl⟩ := hW; exact hyv))
  have HC := Lib.hid (fun (W : World) (hW : ∃ q, W = w.drewN q) => nsub_calls (.slice none 0 0) v1 v2 0 m1 m2 W W.heap.size B1 B2 (.inl ⟨rfl, rfl⟩) (Nat.le_refl _) (by obtain ⟨q, rfl⟩ := hW; exact hxv) (by obtain ⟨q, rfl⟩ := hW; exact hyv) L hmL hL hle)
  obtain ⟨u, hu, hu0⟩ : ∃ u : Int, u = cmpN m1 m2 ∧ 0 ≤ u := ⟨_, rfl, by
    unfold cmpN; rw [if_neg (by omega)]; split <;> omega⟩
  rw [← hu] at HCM
  have hne2 : ¬ bz = bx := fun h => hnx h.symm
  have hne3 : ¬ bz = bY := fun h => hny h.symm
  clear hz hxb hyb hmL hL hle hu
  go_enter Tryz.func101, Tryz.ntmps101
  go_wp2
  go_quiet (fail)
  go_wp2
  go_quiet ((go_at_call 121; first | exact quiet_sum (HCM.out _ ⟨_, rfl⟩) | exact Calls.quiet_of (HCM.out _ ⟨_, rfl⟩)))
  go_wp2
  go_region_with (go_at_call 118; refine (HC.out _ (by first | exact ⟨_, rfl⟩ | exact ⟨_, drewN_drewN _ _ _⟩)).mono ?_; rintro e w2 ⟨v', rfl, hO, hW⟩; have c1 : w2.cell? ⟨bz, 1, none⟩ = some (.slice none 0 0) := (hW.cell (p := ⟨bz, 1, none⟩) hzl).trans hz1; have f1 : w2.frozen? ⟨bz, 1, none⟩ = false := (hW.frozen (p := ⟨bz, 1, none⟩) hzl).trans hzf1; have c0 : w2.cell? ⟨bz, 0, none⟩ = some (.bool b0) := (hW.cell (p := ⟨bz, 0, none⟩) hzl).trans hz0; have f0 : w2.frozen? ⟨bz, 0, none⟩ = false := (hW.frozen (p := ⟨bz, 0, none⟩) hzl).trans hzf; obtain ⟨A', n', c', rfl, _⟩ := hO.shape; have HE := Lib.hid (int_end HZ.out (by first | exact (below_drewN (below_drewN (Below.refl _ _) _) _).drew | exact (below_drewN (Below.refl _ _) _).drew | exact (Below.refl _ _).drew) hW hO); clear hO)
  all_goals (
    by_cases hn' : (0 : Int) < (n' : Int)
    · go_wp2
      go_ret
      exact ⟨rfl, _, HE.out.1, HE.out.2.1, HE.out.2.2⟩
    · go_wp2
      go_ret
      exact ⟨rfl, _, HE.out.1, HE.out.2.1, HE.out.2.2⟩)
end Go.Proofs.YtcfejobdgiiihaaGreatDoor

namespace Go.Proofs.YtcfejobdgiiihaaGreatDoor
open Go.RowKit

theorem int_info : ∃ i, Tryz.prog.info? 149 = some i ∧ i.size = 2 := by
  have h : (Tryz.prog.info? 149).map (fun i => i.size) = some 2 := by kernel_rfl
  cases hi : Tryz.prog.info? 149 with
  | none => rw [hi] at h; cases h
  | some i =>
    rw [hi] at h
    injection h with h
    exact ⟨i, rfl, h⟩
theorem eql_int_other (w : World) {a b : Addr} {ca cb : Array Value} {ta tb : TypeId} (hne : a ≠ b) (ha : w.heap[a.block]? = some (.cells ca ta (0, 0))) (hb : w.heap[b.block]? = some (.cells cb tb (0, 0))) :
    (binOp .eql 138 (.pointer (some a)) (.pointer (some b))).run Tryz.prog w = .ok (.bool false) w := by
  obtain ⟨i, hi, hs⟩ := int_info
  exact run_eql_ptr_other w (by kernel_rfl) hi (by omega) hne ha hb
theorem IntR.cells {w : World} {b m : Nat} {v : Value} (h : IntR w b v m) : w.cell? ⟨b, 0, none⟩ = some (.bool false) ∧ w.cell? ⟨b, 1, none⟩ = some v ∧ b < w.heap.size :=
  ⟨h.1.cell 0, h.1.cell 1, h.1.lt⟩
set_option maxHeartbeats 1000000 in
set_option maxRecDepth 100000 in
theorem iSign_calls (b m : Nat) (v : Value) (w : World) (hx : IntR w b v m) : Calls Tryz.prog 98 #[.pointer (some ⟨b, 0, none⟩)] w fun e w' => e = .returned (.int .i64 (if m = 0 then 0 else 1)) ∧ w = w' := by
  obtain ⟨h0, h1, hl⟩ := hx.cells
  obtain ⟨_, B, hO⟩ := hx
  obtain ⟨A, n, c, xs, rfl, hl, hlc, hcb, hA, ht, hm, hne, hlt⟩ := hO.row
  have hnz : (xs.length = 0 ↔ m = 0) := by rw [← hm]; exact ht.nil_iff (by decide)
  obtain ⟨u, hu⟩ : ∃ u : Int, u = if m = 0 then 0 else 1 := ⟨_, rfl⟩
  rw [← hu]
  by_cases hz : n = 0
  · subst hz
    obtain rfl : u = 0 := by rw [hu, if_pos (hnz.1 hl)]
    clear ht hm hnz hu hO
    go_enter Tryz.func98, Tryz.ntmps98
    go_wp2
    go_ret
    exact ⟨rfl, rfl⟩
  · obtain rfl : u = 1 := by rw [hu, if_neg (by omega)]
    have hz2 : ((n : Int) == 0) = false := by simp; omega
    clear ht hm hnz hu hO
    go_enter Tryz.func98, Tryz.ntmps98
    go_wp2
    go_ret
    exact ⟨rfl, rfl⟩
set_option maxHeartbeats 1000000 in
set_option maxRecDepth 100000 in
theorem iBitLen_calls (b m : Nat) (v : Value) (w : World) (hx : IntR w b v m) : Calls Tryz.prog 99 #[.pointer (some ⟨b, 0, none⟩)] w fun e w' => e = .returned (.int .i64 (bl m : Nat)) ∧ w = w' := by
  obtain ⟨h0, h1, hl⟩ := hx.cells
  obtain ⟨_, B, hO⟩ := hx
  have HC := Lib.hid (nbitLen_calls v m w B hO)
  clear hO
  go_enter Tryz.func99, Tryz.ntmps99
  go_wp2_with fail
  refine HC.out.mono ?_
  rintro e w' ⟨rfl, rfl⟩
  go_wp2
  go_ret
  exact ⟨rfl, rfl⟩
set_option maxHeartbeats 1000000 in
set_option maxRecDepth 100000 in
theorem iUint64_calls (b m : Nat) (v : Value) (w : World) (hx : IntR w b v m) (hm : m < B64) : Calls Tryz.prog 125 #[.pointer (some ⟨b, 0, none⟩)] w fun e w' => e = .returned (.int .u64 m) ∧ w = w' := by
  obtain ⟨h0, h1, hl⟩ := hx.cells
  obtain ⟨_, B, hO⟩ := hx
  have HC := Lib.hid (low64_calls v m w B hO hm)
  clear hO hm
  go_enter Tryz.func125, Tryz.ntmps125
  go_wp2_with fail
  refine HC.out.mono ?_
  rintro e w' ⟨rfl, rfl⟩
  go_wp2
  go_ret
  exact ⟨rfl, rfl⟩
set_option maxHeartbeats 1000000 in
set_option maxRecDepth 100000 in
theorem iSetUint64_calls (bz u : Nat) (b0 : Bool) (w : World) (hz : Blk w bz 149 [.bool b0, .slice none 0 0]) (hu : u < B64) : Calls Tryz.prog 107 #[.pointer (some ⟨bz, 0, none⟩), .int .u64 u] w fun e w' => e = .returned (.pointer (some ⟨bz, 0, none⟩)) ∧ ∃ v', Blk w' bz 149 [.bool false, v'] ∧ OwnN w' (bz + 1) u v' ∧ Below bz w w' := by
  have hz0 := hz.cell 0
  have hz1 := hz.cell 1
  have hzf := hz.frozen 0
  have hzf1 := hz.frozen 1
  simp only [List.getElem?_cons_zero, List.getElem?_cons_succ] at hz0 hz1
  have hzl := hz.lt
  have HZ := Lib.hid hz
  have HC := Lib.hid (fun (W : World) => nsetUint64_calls u hu W)
  clear hz hu
  go_enter Tryz.func107, Tryz.ntmps107
  go_wp2_with fail
  refine (HC.out _).mono ?_
  rintro e w2 ⟨v', rfl, hO, hW⟩
  have c1 : w2.cell? ⟨bz, 1, none⟩ = some (.slice none 0 0) := (hW.cell (p := ⟨bz, 1, none⟩) hzl).trans hz1
  have f1 : w2.frozen? ⟨bz, 1, none⟩ = false := (hW.frozen (p := ⟨bz, 1, none⟩) hzl).trans hzf1
  have c0 : w2.cell? ⟨bz, 0, none⟩ = some (.bool b0) := (hW.cell (p := ⟨bz, 0, none⟩) hzl).trans hz0
  have f0 : w2.frozen? ⟨bz, 0, none⟩ = false := (hW.frozen (p := ⟨bz, 0, none⟩) hzl).trans hzf
  obtain ⟨A', n', c', rfl, _⟩ := hO.shape
  have HE := Lib.hid (int_end HZ.out (Below.refl _ _) hW hO)
  clear hO
  go_wp2
  go_ret
  exact ⟨rfl, _, HE.out.1, HE.out.2.1, HE.out.2.2⟩
set_option maxHeartbeats 1000000 in
set_option maxRecDepth 100000 in
theorem newInt_calls (w : World) : Calls Tryz.prog 103 #[.int .i64 1] w fun e w' => ∃ b v, e = .returned (.pointer (some ⟨b, 0, none⟩)) ∧ w.heap.size ≤ b ∧ IntR w' b v 1 ∧ Below w.heap.size w w' := by
  go_enter Tryz.func103, Tryz.ntmps103
  go_wp2
  go_ret
  have h1 : Blk (w.alloc (.cells #[.int .u64 1] 163)) w.heap.size 163 (i64s [1]) := Blk.new w #[.int .u64 1] _
  have h2 : Blk ((w.alloc (.cells #[.int .u64 1] 163)).alloc (.cells #[.bool false, .slice (some ⟨w.heap.size, 0, none⟩) 1 1] 149)) (w.heap.size + 1) 149 [.bool false, .slice (some ⟨w.heap.size, 0, none⟩) 1 1] := by
    have := Blk.new (w.alloc (.cells #[.int .u64 1] 163)) #[.bool false, .slice (some ⟨w.heap.size, 0, none⟩) 1 1] 149
    simpa using this
  exact ⟨w.heap.size + 1, _, rfl, by omega, ⟨h2, w.heap.size, .inr ⟨w.heap.size, [1], 1, rfl, Nat.le_refl _, h1.alloc _, (by intro d hd; simp at hd; subst hd; decide), by simp, by simp, .inr (by simp), by simp [val]⟩⟩, below_new (below_new (Below.refl _ _) _) _⟩
set_option maxHeartbeats 1000000 in
set_option maxRecDepth 100000 in
theorem iCmp_calls (bx bY m1 m2 : Nat) (v1 v2 : Value) (w : World) (hx : IntR w bx v1 m1) (hy : IntR w bY v2 m2) (hne : bx ≠ bY) : Calls Tryz.prog 104 #[.pointer (some ⟨bx, 0, none⟩), .pointer (some ⟨bY, 0, none⟩)] w fun e w' => e = .returned (.int .i64 (cmpN m1 m2)) ∧ ∃ q, w' = w.drewN q := by
  obtain ⟨hx0, hx1, hxl⟩ := hx.cells
  obtain ⟨hy0, hy1, hyl⟩ := hy.cells
  obtain ⟨hxb, B1, hxv⟩ := hx
  obtain ⟨hyb, B2, hyv⟩ := hy
  have HCM := Lib.hid (fun (W : World) (hW : ∃ q, W = w.drewN q) => ncmp_calls v1 v2 m1 m2 W B1 B2 (by obtain ⟨q, rfl⟩ := hW; exact hxv) (by obtain ⟨q, rfl⟩ := hW; exact hyv))
  have hnp := eql_int_other w (a := ⟨bx, 0, none⟩) (b := ⟨bY, 0, none⟩) (by intro h; injection h with h; exact hne h) hxb hyb
  clear hxb hyb hxv hyv
  go_enter Tryz.func104, Tryz.ntmps104
  go_wp2
  go_quiet (fail)
  go_wp2
  go_quiet ((go_at_call 121; first | exact quiet_sum (HCM.out _ ⟨_, rfl⟩) | exact Calls.quiet_of (HCM.out _ ⟨_, rfl⟩)))
  go_wp2
  go_ret
  exact ⟨rfl, _, rfl⟩
theorem int_end1 {w w2 : World} {bz m : Nat} {a0 a1 v : Value} (hz : Blk w bz 149 [a0, a1]) (hW : Below (bz + 1) w w2) (hO : OwnN w2 (bz + 1) m v) :
    Blk ((w2.setCell ⟨bz, 1, none⟩ v).setCell ⟨bz, 0, none⟩ (.bool false)) bz 149 [.bool false, v] ∧ OwnN ((w2.setCell ⟨bz, 1, none⟩ v).setCell ⟨bz, 0, none⟩ (.bool false)) (bz + 1) m v ∧ Below bz w ((w2.setCell ⟨bz, 1, none⟩ v).setCell ⟨bz, 0, none⟩ (.bool false)) := by
  have h2 : Blk w2 bz 149 [a0, a1] := hz.below hW (Nat.lt_succ_self _)
  have e : Below bz w w2 := hW.mono (by omega)
  exact ⟨(h2.set 1 v).set 0 (.bool false), (hO.setCell (p := ⟨bz, 1, none⟩) (Nat.lt_succ_self bz) _).setCell (p := ⟨bz, 0, none⟩) (Nat.lt_succ_self bz) _, (e.setCell (Nat.le_refl _) _).setCell (Nat.le_refl _) _⟩

set_option maxHeartbeats 4000000 in
set_option maxRecDepth 100000 in
/-- q.Add(q, y) -/
theorem iAdd_calls (bz bY m1 m2 : Nat) (v1 v2 : Value) (w : World) (hz : Blk w bz 149 [.bool false, v1]) (hv : OwnN w (bz + 1) m1 v1) (hy : IntR w bY v2 m2) (hny : bY ≠ bz) (L : Nat) (hmL : m1 < B64 ^ L) (hmL2 : m2 < B64 ^ L) (hL : L ≤ 4294967296) :
    Calls Tryz.prog 106 #[.pointer (some ⟨bz, 0, none⟩), .pointer (some ⟨bz, 0, none⟩), .pointer (some ⟨bY, 0, none⟩)] w fun e w' => e = .returned (.pointer (some ⟨bz, 0, none⟩)) ∧ ∃ v', Blk w' bz 149 [.bool false, v'] ∧ OwnN w' (bz + 1) (m1 + m2) v' ∧ Below bz w w' := by
  obtain ⟨hy0, hy1, hyl⟩ := hy.cells
  obtain ⟨hyb, B2, hyv⟩ := hy
  have hz0 := hz.cell 0
  have hz1 := hz.cell 1
  have hzf := hz.frozen 0
  have hzf1 := hz.frozen 1
  simp only [List.getElem?_cons_zero, List.getElem?_cons_succ] at hz0 hz1
  have hzl := hz.lt
  have HZ := Lib.hid hz
  have HC := Lib.hid (fun (W : World) (hW : ∃ q, W = w.drewN q) => nadd_calls v1 v1 v2 m1 m1 m2 W (bz + 1) (bz + 1) B2 (by obtain ⟨q, rfl⟩ := hW; exact hv) (by obtain ⟨q, rfl⟩ := hW; exact hzl) (by obtain ⟨q, rfl⟩ := hW; exact hv) (by obtain ⟨q, rfl⟩ := hW; exact hyv) L hmL hmL2 hL)
  have hne3 : ¬ bz = bY := fun h => hny h.symm
  obtain ⟨A1, n1, c1, rfl, _⟩ := hv.shape
  clear hz hyb hmL hmL2 hL hv hyv
  go_enter Tryz.func106, Tryz.ntmps106
  go_wp2
  go_quiet (fail)
  go_wp2
  go_region_with (go_at_call 120; refine (HC.out _ (by first | exact ⟨_, rfl⟩ | exact ⟨_, drewN_drewN _ _ _⟩)).mono ?_; rintro e w2 ⟨v', rfl, hO, hW⟩; have c1' : w2.cell? ⟨bz, 1, none⟩ = some (.slice A1 n1 c1) := (hW.cell (p := ⟨bz, 1, none⟩) (Nat.lt_succ_self bz)).trans hz1; have f1 : w2.frozen? ⟨bz, 1, none⟩ = false := (hW.frozen (p := ⟨bz, 1, none⟩) (Nat.lt_succ_self bz)).trans hzf1; have c0 : w2.cell? ⟨bz, 0, none⟩ = some (.bool false) := (hW.cell (p := ⟨bz, 0, none⟩) (Nat.lt_succ_self bz)).trans hz0; have f0 : w2.frozen? ⟨bz, 0, none⟩ = false := (hW.frozen (p := ⟨bz, 0, none⟩) (Nat.lt_succ_self bz)).trans hzf; obtain ⟨A', n', c', rfl, _⟩ := hO.shape; have HE := Lib.hid (int_end1 HZ.out ((below_drewN (Below.refl (bz + 1) w) _).trans hW) hO); clear hO)
  all_goals (
    by_cases hn' : (0 : Int) < (n' : Int)
    · go_wp2
      go_ret
      exact ⟨rfl, _, HE.out.1, HE.out.2.1, HE.out.2.2⟩
    · go_wp2
      go_ret
      exact ⟨rfl, _, HE.out.1, HE.out.2.1, HE.out.2.2⟩)
end Go.Proofs.YtcfejobdgiiihaaGreatDoor
