/- Walks and plain laws of this seat's functions, part 20: N15 N16 N17 N3b. -/
import Derived.Test.YtikdhkmcdmnadaaGreatFmtJ09
import Derived.Test.YtikdhkmcdmnadaaGreatFmtJ19
set_option linter.unusedVariables false
set_option linter.unusedSimpArgs false
namespace Go.Proofs.YtikdhkmcdmnadaaGreatFmt
open Go.RowKit

theorem bl_shr {x k : Nat} (h : 2 ^ k ≤ x) : bl x = k + bl (x / 2 ^ k) := by
  have h0 : x / 2 ^ k ≠ 0 := by
    have := Nat.div_le_div_right (c := 2 ^ k) h
    rw [Nat.div_self (Nat.pow_pos (by decide))] at this; omega
  have h1 := bl_low (lo := x % 2 ^ k) h0 (k := k) (Nat.mod_lt _ (Nat.pow_pos (by decide)))
  rw [Nat.mod_add_div] at h1; exact h1
theorem dep256 {P : (x : Nat) → (x : Int) < 256 → Prop} (h : ∀ i : Fin 256, P i.val (by have := i.2; omega)) : ∀ x hc, P x hc := fun x hc => h ⟨x, by omega⟩
set_option maxHeartbeats 4000000 in
set_option maxRecDepth 100000 in
theorem len64_calls (x : Nat) (w : World) (hx : x < 18446744073709551616) : Calls Tryz.prog 197 #[.int .u64 x] w fun e w' => e = .returned (.int .i64 (bl x : Nat)) ∧ w = w' := by
  by_cases h32 : 4294967296 ≤ x
  · have i32 : (4294967296 : Int) ≤ x := by omega
    obtain ⟨x32, hx32⟩ : ∃ x32, x32 = x / 4294967296 := ⟨_, rfl⟩
    have gx32 : (x : Int) / 4294967296 = (x32 : Int) := by omega
    have bx32 : bl x = 32 + bl x32 := by rw [hx32]; exact bl_shr (k := 32) (by omega)
    by_cases h16 : 65536 ≤ x32
    · have i16 : (65536 : Int) ≤ x32 := by omega
      obtain ⟨x16, hx16⟩ : ∃ x16, x16 = x32 / 65536 := ⟨_, rfl⟩
      have gx16 : (x32 : Int) / 65536 = (x16 : Int) := by omega
      have bx16 : bl x32 = 16 + bl x16 := by rw [hx16]; exact bl_shr (k := 16) (by omega)
      by_cases h8 : 256 ≤ x16
      · have i8 : (256 : Int) ≤ x16 := by omega
        obtain ⟨x8, hx8⟩ : ∃ x8, x8 = x16 / 256 := ⟨_, rfl⟩
        have gx8 : (x16 : Int) / 256 = (x8 : Int) := by omega
        have bx8 : bl x16 = 8 + bl x8 := by rw [hx8]; exact bl_shr (k := 8) (by omega)
        have hL : Hid (bl x = 56 + bl x8) := by simp only [Hid]; omega
        have hc : (x8 : Int) < 256 := by omega
        try clear h32
        try clear h16
        try clear h8
        clear bx32 hx32 bx16 hx16 bx8 hx8
        clear hx
        go_enter Tryz.func197, Tryz.ntmps197
        go_wp2
        go_ret
        refine ⟨ret_int' ?_, rfl⟩
        rw [hL.out]
        clear hL
        try clear gx32
        try clear gx16
        try clear gx8
        try clear i32
        try clear i16
        revert x8
        refine dep256 ?_
        decide +kernel
      · have i8 : ¬ (256 : Int) ≤ x16 := by omega
        have hL : Hid (bl x = 48 + bl x16) := by simp only [Hid]; omega
        have hc : (x16 : Int) < 256 := by omega
        try clear h32
        try clear h16
        try clear h8
        clear bx32 hx32 bx16 hx16
        clear hx
        go_enter Tryz.func197, Tryz.ntmps197
        go_wp2
        go_ret
        refine ⟨ret_int' ?_, rfl⟩
        rw [hL.out]
        clear hL
        try clear gx32
        try clear gx16
        try clear gx8
        try clear i32
        try clear i16
        revert x16
        refine dep256 ?_
        decide +kernel
    · have i16 : ¬ (65536 : Int) ≤ x32 := by omega
      by_cases h8 : 256 ≤ x32
      · have i8 : (256 : Int) ≤ x32 := by omega
        obtain ⟨x8, hx8⟩ : ∃ x8, x8 = x32 / 256 := ⟨_, rfl⟩
        have gx8 : (x32 : Int) / 256 = (x8 : Int) := by omega
        have bx8 : bl x32 = 8 + bl x8 := by rw [hx8]; exact bl_shr (k := 8) (by omega)
        have hL : Hid (bl x = 40 + bl x8) := by simp only [Hid]; omega
        have hc : (x8 : Int) < 256 := by omega
        try clear h32
        try clear h16
        try clear h8
        clear bx32 hx32 bx8 hx8
        clear hx
        go_enter Tryz.func197, Tryz.ntmps197
        go_wp2
        go_ret
        refine ⟨ret_int' ?_, rfl⟩
        rw [hL.out]
        clear hL
        try clear gx32
        try clear gx16
        try clear gx8
        try clear i32
        try clear i16
        revert x8
        refine dep256 ?_
        decide +kernel
      · have i8 : ¬ (256 : Int) ≤ x32 := by omega
        have hL : Hid (bl x = 32 + bl x32) := by simp only [Hid]; omega
        have hc : (x32 : Int) < 256 := by omega
        try clear h32
        try clear h16
        try clear h8
        clear bx32 hx32
        clear hx
        go_enter Tryz.func197, Tryz.ntmps197
        go_wp2
        go_ret
        refine ⟨ret_int' ?_, rfl⟩
        rw [hL.out]
        clear hL
        try clear gx32
        try clear gx16
        try clear gx8
        try clear i32
        try clear i16
        revert x32
        refine dep256 ?_
        decide +kernel
  · have i32 : ¬ (4294967296 : Int) ≤ x := by omega
    by_cases h16 : 65536 ≤ x
    · have i16 : (65536 : Int) ≤ x := by omega
      obtain ⟨x16, hx16⟩ : ∃ x16, x16 = x / 65536 := ⟨_, rfl⟩
      have gx16 : (x : Int) / 65536 = (x16 : Int) := by omega
      have bx16 : bl x = 16 + bl x16 := by rw [hx16]; exact bl_shr (k := 16) (by omega)
      by_cases h8 : 256 ≤ x16
      · have i8 : (256 : Int) ≤ x16 := by omega
        obtain ⟨x8, hx8⟩ : ∃ x8, x8 = x16 / 256 := ⟨_, rfl⟩
        have gx8 : (x16 : Int) / 256 = (x8 : Int) := by omega
        have bx8 : bl x16 = 8 + bl x8 := by rw [hx8]; exact bl_shr (k := 8) (by omega)
        have hL : Hid (bl x = 24 + bl x8) := by simp only [Hid]; omega
        have hc : (x8 : Int) < 256 := by omega
        try clear h32
        try clear h16
        try clear h8
        clear bx16 hx16 bx8 hx8
        clear hx
        go_enter Tryz.func197, Tryz.ntmps197
        go_wp2
        go_ret
        refine ⟨ret_int' ?_, rfl⟩
        rw [hL.out]
        clear hL
        try clear gx32
        try clear gx16
        try clear gx8
        try clear i32
        try clear i16
        revert x8
        refine dep256 ?_
        decide +kernel
      · have i8 : ¬ (256 : Int) ≤ x16 := by omega
        have hL : Hid (bl x = 16 + bl x16) := by simp only [Hid]; omega
        have hc : (x16 : Int) < 256 := by omega
        try clear h32
        try clear h16
        try clear h8
        clear bx16 hx16
        clear hx
        go_enter Tryz.func197, Tryz.ntmps197
        go_wp2
        go_ret
        refine ⟨ret_int' ?_, rfl⟩
        rw [hL.out]
        clear hL
        try clear gx32
        try clear gx16
        try clear gx8
        try clear i32
        try clear i16
        revert x16
        refine dep256 ?_
        decide +kernel
    · have i16 : ¬ (65536 : Int) ≤ x := by omega
      by_cases h8 : 256 ≤ x
      · have i8 : (256 : Int) ≤ x := by omega
        obtain ⟨x8, hx8⟩ : ∃ x8, x8 = x / 256 := ⟨_, rfl⟩
        have gx8 : (x : Int) / 256 = (x8 : Int) := by omega
        have bx8 : bl x = 8 + bl x8 := by rw [hx8]; exact bl_shr (k := 8) (by omega)
        have hL : Hid (bl x = 8 + bl x8) := by simp only [Hid]; omega
        have hc : (x8 : Int) < 256 := by omega
        try clear h32
        try clear h16
        try clear h8
        clear bx8 hx8
        clear hx
        go_enter Tryz.func197, Tryz.ntmps197
        go_wp2
        go_ret
        refine ⟨ret_int' ?_, rfl⟩
        rw [hL.out]
        clear hL
        try clear gx32
        try clear gx16
        try clear gx8
        try clear i32
        try clear i16
        revert x8
        refine dep256 ?_
        decide +kernel
      · have i8 : ¬ (256 : Int) ≤ x := by omega
        have hL : Hid (bl x = 0 + bl x) := by simp only [Hid]; omega
        have hc : (x : Int) < 256 := by omega
        try clear h32
        try clear h16
        try clear h8
        clear hx
        go_enter Tryz.func197, Tryz.ntmps197
        go_wp2
        go_ret
        refine ⟨ret_int' ?_, rfl⟩
        rw [hL.out]
        clear hL
        try clear gx32
        try clear gx16
        try clear gx8
        try clear i32
        try clear i16
        revert x
        refine dep256 ?_
        decide +kernel
end Go.Proofs.YtikdhkmcdmnadaaGreatFmt

namespace Go.Proofs.YtikdhkmcdmnadaaGreatFmt
open Go.RowKit

set_option maxHeartbeats 1000000 in
theorem ncmp_calls (x y : Value) (m1 m2 : Nat) (w : World) (B1 B2 : Nat) (hx : OwnN w B1 m1 x) (hy : OwnN w B2 m2 y) :
    Calls Tryz.prog 127 #[x, y] w fun e w' => e = .returned (.int .i64 (cmpN m1 m2)) ∧ ∃ q, w' = w.drewN q := by
  obtain ⟨A, n, c, xs, rfl, hl, hlc, hcb, hA, ht, hm, hne, hlt⟩ := hx.row
  obtain ⟨A', n', c', ys, rfl, hl', hlc', hcb', hA', ht', hm', hne', hlt'⟩ := hy.row
  have hb1 := u64bd hA
  have hb2 := u64bd hA'
  rcases Nat.lt_trichotomy n n' with h | h | h
  · have hv := val_lt_of_len (B := B64) (by decide) hb1 ht' (by omega)
    rw [hm, hm'] at hv
    rw [cmpN_lt hv]
    have h1 : (n : Int) < (n' : Int) := by omega
    have h2 : ((n : Int) != (n' : Int)) = true := by simp; omega
    clear hb1 hb2 hv hm hm' ht ht'
    go_enter Tryz.func127, Tryz.ntmps127
    go_wp2
    go_ret
    exact ⟨rfl, 0, rfl⟩
  · subst h
    rcases Nat.eq_zero_or_pos n with h0 | h0
    · subst h0
      obtain rfl := List.eq_nil_of_length_eq_zero hl
      obtain rfl := List.eq_nil_of_length_eq_zero hl'
      rw [← hm, ← hm', cmpN_eq]
      clear hb1 hb2 hm hm' ht ht'
      go_enter Tryz.func127, Tryz.ntmps127
      go_wp2
      go_ret
      exact ⟨rfl, 0, rfl⟩
    · rw [← hm, ← hm']
      exact ncmp_same A A' n c c' _ _ _ _ xs ys w hl hl' hA hA' (by omega) h0
  · have hv := val_lt_of_len (B := B64) (by decide) hb2 ht (by omega)
    rw [hm, hm'] at hv
    rw [cmpN_gt hv]
    have h1 : (n' : Int) < (n : Int) := by omega
    have h2 : ((n : Int) != (n' : Int)) = true := by simp; omega
    clear hb1 hb2 hv hm hm' ht ht'
    go_enter Tryz.func127, Tryz.ntmps127
    go_wp2
    go_ret
    exact ⟨rfl, 0, rfl⟩
set_option maxHeartbeats 1000000 in
theorem nsetWord_calls (v : Nat) (hv : v < B64) (w : World) : Calls Tryz.prog 116 #[.slice none 0 0, .int .u64 v] w fun e w' => ∃ u, e = .returned u ∧ OwnN w' w.heap.size v u ∧ Below w.heap.size w w' := by
  rcases Nat.eq_zero_or_pos v with h0 | h0
  · subst h0
    clear hv
    go_enter Tryz.func116, Tryz.ntmps116
    go_wp2
    go_ret
    exact ⟨_, rfl, .inl ⟨rfl, rfl⟩, Below.refl _ _⟩
  · have hz : ((v : Int) == 0) = false := by simp; omega
    have HV := Lib.hid hv
    clear hv
    have HMK := nmake_dest (.slice none 0 0) 0 1 w w.heap.size (.inl ⟨rfl, rfl⟩) (Nat.le_refl _) (by omega) (by omega)
    simp only [Int.natCast_one] at HMK
    replace HMK := Lib.hid HMK
    go_enter Tryz.func116, Tryz.ntmps116
    go_wp2_with fail
    refine HMK.out.mono ?_
    rintro e w1 ⟨g, Z, rfl, hBg, hZ, hZb, hnZ, hZl, hw1, _⟩
    obtain ⟨z, hz1, hz2, _, _⟩ := hZ.at64 (i := 0) (by omega) hZb
    have hb1 := hZ.set64 0 v _ rfl
    have HB := Lib.hid hb1
    have HZB := Lib.hid hZb
    have HW := Lib.hid hw1
    clear hb1 hZ hZb hw1
    obtain ⟨z0, zs, rfl⟩ : ∃ z0 zs, Z = z0 :: zs := by
      cases Z with
      | nil => simp at hnZ
      | cons a b => exact ⟨a, b, rfl⟩
    go_wp2
    go_ret
    refine ⟨_, rfl, .inr ⟨g, v :: zs, 1, rfl, hBg, HB.out, ?_, by simp, by simpa using hZl, .inr ?_, ?_⟩, HW.out.setCell hBg _⟩
    · intro d hd
      rcases List.mem_cons.1 hd with rfl | hd
      · exact HV.out
      · exact HZB.out d (List.mem_cons_of_mem _ hd)
    · simp; omega
    · simp [val]
set_option maxHeartbeats 1000000 in
theorem nsetUint64_calls (v : Nat) (hv : v < B64) (w : World) : Calls Tryz.prog 90 #[.slice none 0 0, .int .u64 v] w fun e w' => ∃ u, e = .returned u ∧ OwnN w' w.heap.size v u ∧ Below w.heap.size w w' := by
  have HC := Lib.hid (nsetWord_calls v hv w)
  clear hv
  go_enter Tryz.func90, Tryz.ntmps90
  go_wp2_with fail
  refine HC.out.mono ?_
  rintro e w1 ⟨u, rfl, hO, hw⟩
  have HO := Lib.hid hO
  clear hO
  go_wp2
  go_ret
  exact ⟨_, rfl, HO.out, hw⟩
end Go.Proofs.YtikdhkmcdmnadaaGreatFmt

namespace Go.Proofs.YtikdhkmcdmnadaaGreatFmt
open Go.RowKit

theorem bl_or {x y : Nat} (h : y ≤ x) : bl (x ||| y) = bl x := by
  rcases Nat.eq_zero_or_pos x with h0 | h0
  · subst h0
    obtain rfl : y = 0 := by omega
    rfl
  · have h1 : x ||| y < 2 ^ bl x := Nat.or_lt_two_pow (bl_lt x) (Nat.lt_of_le_of_lt h (bl_lt x))
    have h2 : x ≤ x ||| y := Nat.left_le_or
    have h3 := bl_le (m := x) (by omega)
    have h4 := bl_pos (m := x) (by omega)
    obtain ⟨L, hL⟩ : ∃ L, bl x = L + 1 := ⟨bl x - 1, by omega⟩
    rw [hL] at h1 h3 ⊢
    exact bl_eq h1 (Nat.le_trans h3 h2)
theorem smear (x d : Nat) (hx : x < 18446744073709551616) (D : Int) (hD : D = d) : ∃ y : Nat, bits .or .u64 (x : Int) ((x : Int) / D) = (y : Int) ∧ y < 18446744073709551616 ∧ bl y = bl x := by
  subst hD
  refine ⟨x ||| (x / d), ?_, ?_, bl_or (Nat.div_le_self _ _)⟩
  · rw [← Int.natCast_ediv, u64_or_nat _ _ hx (Nat.lt_of_le_of_lt (Nat.div_le_self _ _) hx)]
  · exact Nat.or_lt_two_pow (n := 64) hx (Nat.lt_of_le_of_lt (Nat.div_le_self _ _) hx)
theorem bl_val64 {xs : List Nat} {k x : Nat} (hl : xs.length = k + 1) (hb : ∀ d ∈ xs, d < B64) (hx : xs.getD k 0 = x) (h0 : x ≠ 0) : bl (val B64 xs) = 64 * k + bl x := by
  have h1 := val_take B64 (xs := xs) (i := k) (by omega)
  rw [List.take_of_length_le (by omega), hx] at h1
  have h2 := val_lt (B := B64) (by decide) (xs.take k) (fun d hd => hb d (List.mem_of_mem_take hd))
  rw [List.length_take, Nat.min_eq_left (by omega), show B64 = 2 ^ 64 from rfl, ← Nat.pow_mul] at h2
  rw [h1, show B64 ^ k = 2 ^ (64 * k) from by rw [show B64 = 2 ^ 64 from rfl, ← Nat.pow_mul]]
  exact bl_low h0 h2
set_option maxHeartbeats 1000000 in
theorem blen_calls (x : Nat) (w : World) (hx : x < 18446744073709551616) : Calls Tryz.prog 166 #[.int .u64 x] w fun e w' => e = .returned (.int .i64 (bl x : Nat)) ∧ w = w' := by
  have HC := Lib.hid (fun W => len64_calls x W hx)
  clear hx
  go_enter Tryz.func166, Tryz.ntmps166
  go_wp2_with fail
  refine (HC.out _).mono ?_
  rintro e w' ⟨rfl, rfl⟩
  go_wp2
  go_ret
  exact ⟨rfl, rfl⟩
set_option maxHeartbeats 1000000 in
theorem nbitLen_calls (x : Value) (m : Nat) (w : World) (B : Nat) (hx : OwnN w B m x) : Calls Tryz.prog 144 #[x] w fun e w' => e = .returned (.int .i64 (bl m : Nat)) ∧ w = w' := by
  obtain ⟨A, n, c, xs, rfl, hl, hlc, hcb, hA, ht, hm, hne, hlt⟩ := hx.row
  rcases Nat.eq_zero_or_pos n with h0 | h0
  · subst h0
    obtain rfl := List.eq_nil_of_length_eq_zero hl
    obtain rfl : m = 0 := by rw [← hm]; rfl
    clear ht hm
    go_enter Tryz.func144, Tryz.ntmps144
    go_wp2
    go_ret
    exact ⟨rfl, rfl⟩
  · obtain ⟨k, rfl⟩ : ∃ k, n = k + 1 := ⟨n - 1, by omega⟩
    obtain ⟨a, d, rfl, hca, hdb, hde⟩ := u64at hA (i := k) (by omega)
    have hd0 : d ≠ 0 := by
      rcases ht with ht | ht
      · rw [ht] at hl; simp at hl
      · rw [show xs.length - 1 = k from by omega, hde.out] at ht; omega
    have hv := bl_val64 hl (u64bd hA) hde.out hd0
    rw [hm] at hv
    obtain ⟨y1, h1, b1, e1⟩ := smear d 2 hdb 2 rfl
    obtain ⟨y2, h2, b2, e2⟩ := smear y1 4 b1 4 rfl
    obtain ⟨y3, h3, b3, e3⟩ := smear y2 16 b2 16 rfl
    obtain ⟨y4, h4, b4, e4⟩ := smear y3 256 b3 256 rfl
    obtain ⟨y5, h5, b5, e5⟩ := smear y4 65536 b4 65536 rfl
    obtain ⟨y6, h6, b6, e6⟩ := smear y5 4294967296 b5 4294967296 rfl
    have h6' : bits .or .u64 (y5 : Int) ((y5 : Int) / 65536 / 65536) = (y6 : Int) := by
      rw [← h6]; congr 1; omega
    have HC := Lib.hid (fun W => blen_calls y6 W b6)
    have HV : Hid (bl m = 64 * k + bl y6) := by simp only [Hid]; omega
    have hbb : bl y6 ≤ 64 := bl_le_of_lt (L := 64) b6
    have hk1 : ((k + 1 : Nat) : Int) - 1 = (k : Int) := by omega
    have hk2 : (k : Int) + 1 - 1 = (k : Int) := by omega
    have hk3 : (0 : Int) ≤ (k : Int) := by omega
    clear ht hm hv hdb b1 b2 b3 b4 b5 b6 e1 e2 e3 e4 e5 e6 h6 hd0
    go_enter Tryz.func144, Tryz.ntmps144
    go_wp2_with fail
    refine (HC.out _).mono ?_
    rintro e w' ⟨rfl, rfl⟩
    go_wp2
    go_ret
    exact ⟨ret_int' (by have := HV.out; omega), rfl⟩
end Go.Proofs.YtikdhkmcdmnadaaGreatFmt

namespace Go.Proofs.YtikdhkmcdmnadaaGreatFmt
open Go.RowKit

/-! ### lshVU in place: z and x are one list -/
theorem getD_mixed {xs top post : List Nat} {k i : Nat} (hk : k < xs.length) (hi : i ≤ k) : (xs.take (k + 1) ++ top ++ post).getD i 0 = xs.getD i 0 := by
  rw [List.getD_eq_getElem?_getD, List.getD_eq_getElem?_getD, List.append_assoc, List.getElem?_append_left (by rw [List.length_take]; omega), List.getElem?_take, if_pos (by omega)]
set_option maxHeartbeats 2000000 in
set_option maxRecDepth 100000 in
theorem lshVU_self (n c cx g s : Nat) (xs post : List Nat) (w : World) (hn : xs.length = n) (hg : Blk w g 109 (i64s (xs ++ post))) (hzb : ∀ d ∈ xs ++ post, d < B64)
    (hs0 : 0 < s) (hs : s < 64) (hn0 : 0 < n) (hnb : n ≤ 1099511627776) :
    Calls Tryz.prog 59 #[.slice (some ⟨g, 0, none⟩) n c, .slice (some ⟨g, 0, none⟩) n cx, .int .u64 s] w fun e w' => ∃ (v : Nat) (ys : List Nat), e = .returned (.int .u64 v) ∧ Blk w' g 109 (i64s (ys ++ post)) ∧ ys.length = n ∧ (∀ d ∈ ys, d < B64) ∧ val B64 ys + B64 ^ n * v = val B64 xs * 2 ^ s ∧ v < B64 ∧ Below g w w' := by
  subst hn
  obtain ⟨r, hr⟩ : ∃ r, s + r = 64 := ⟨64 - s, by omega⟩
  have hrl : r < 64 := by omega
  have h1 := and63 hs
  have h2 : (64 : Int) - (s : Int) = (r : Int) := by omega
  have h3 := and63 hrl
  obtain ⟨x0, hx0, _, hx0b, hx0e0⟩ := hg.at64 (i := 0) (by simp; omega) hzb
  obtain ⟨x1, hx1, _, hx1b, hx1e0⟩ := hg.at64 (i := xs.length - 1) (by simp; omega) hzb
  have gl : ∀ i, i < xs.length → (xs ++ post).getD i 0 = xs.getD i 0 := fun i hi => by rw [List.getD_eq_getElem?_getD, List.getD_eq_getElem?_getD, List.getElem?_append_left hi]
  have hx0e : Hid (xs.getD 0 0 = x0) := by rw [Hid, ← gl 0 hn0]; exact hx0e0.out
  have hx1e : Hid (xs.getD (xs.length - 1) 0 = x1) := by rw [Hid, ← gl _ (by omega)]; exact hx1e0.out
  have hlz : ((xs.length : Int) == 0) = false := by simp; intro e; rw [e] at hn0; simp at hn0
  have hsz : ((s : Int) == 0) = false := by simp; omega
  have hl1 : (xs.length : Int) - 1 = ((xs.length - 1 : Nat) : Int) := by omega
  have HV := Lib.hid (shr_nat x1 r)
  have hI0 := LshInv.start (s := s) (r := r) hn0
  rw [hx1e.out] at hI0
  have HI0 := Lib.hid hI0
  clear hI0 gl hx0e0 hx1e0
  have HZB := Lib.hid hzb
  clear hzb
  go_enter Tryz.func59, Tryz.ntmps59
  go_wp2
  go_loopw [8] (fun i wr => ∃ (k : Nat) (top : List Nat), i = .int .i64 (k : Int) ∧ k < xs.length ∧ Hid (LshInv s r xs k top (x1 / 2 ^ r)) ∧ Hid (Blk wr g 109 (i64s (xs.take (k + 1) ++ top ++ post))) ∧ Hid (Below g w wr)) (fun i _ => (intOf i).toNat)
  case atStart => exact ⟨xs.length - 1, [], by go_num, by omega, HI0.out, by rw [Hid, show xs.length - 1 + 1 = xs.length from by omega, List.take_length, List.append_nil]; exact hg, Below.refl _ _⟩
  case round =>
    obtain ⟨k, top, rfl, hk, hI, hZ, hW⟩ := hrel
    have hyl := hI.out.len
    have hbb : ∀ d ∈ xs.take (k + 1) ++ top ++ post, d < B64 := fun d hd => by
      rcases List.mem_append.1 hd with h | h
      · rcases List.mem_append.1 h with h | h
        · exact HZB.out d (List.mem_append_left _ (List.mem_of_mem_take h))
        · exact hI.out.bd d h
      · exact HZB.out d (List.mem_append_right _ h)
    obtain ⟨x, hcx, hfx, hxb, hxe0⟩ := hZ.out.at64 (i := k) (by simp; omega) hbb
    have hxe : Hid (xs.getD k 0 = x) := by rw [Hid, ← getD_mixed (top := top) (post := post) hk (Nat.le_refl k)]; exact hxe0.out
    have HBB := Lib.hid hbb
    by_cases hlt : 0 < k
    · obtain ⟨j, rfl⟩ : ∃ j, k = j + 1 := ⟨k - 1, by omega⟩
      obtain ⟨y, hcy, hfy, hyb, hye0⟩ := hZ.out.at64 (i := j) (by simp; omega) hbb
      have hye : Hid (xs.getD j 0 = y) := by rw [Hid, ← getD_mixed (top := top) (post := post) hk (show j ≤ j + 1 by omega)]; exact hye0.out
      have hw1 : IntKind.i64.wrap (((j + 1 : Nat) : Int) - 1) = (j : Int) := by rw [show ((j + 1 : Nat) : Int) - 1 = j from by omega]; exact IntWalk.i64_in _ (by omega)
      have hw2 : IntKind.i64.wrap (j : Int) = (j : Int) := IntWalk.i64_in _ (by omega)
      have hi1 : (0 : Int) ≤ (j : Int) := by omega
      have hi2 : (j : Int) < (xs.length : Int) := by omega
      have hi4 : ((j + 1 : Nat) : Int) < (xs.length : Int) := by omega
      have hi3 : (0 : Int) ≤ ((j + 1 : Nat) : Int) := by omega
      have hi5 : (0 : Int) ≤ (j : Int) + 1 := by omega
      have hi6 : (j : Int) + 1 < (xs.length : Int) := by omega
      have hi7 : ((j : Int) + 1).toNat = j + 1 := by omega
      have hw3 : IntKind.i64.wrap ((j : Int) + 1 - 1) = (j : Int) := by rw [show (j : Int) + 1 - 1 = j from by omega]; exact hw2
      clear hbb hxe0 hye0
      go_wp2
      go_region
      all_goals (
        go_wp2
        go_roundw
        case rel =>
          have hst := LshInv.step hI.out hr hxe.out hye.out hyb
          have hb := hZ.out.set64 (j + 1) _ _ (or_shl (x := x) hyb hr)
          have e : (xs.take (j + 1 + 1) ++ top ++ post).set (j + 1) (x * 2 ^ s % B64 + y / 2 ^ r) = xs.take (j + 1) ++ ((x * 2 ^ s % B64 + y / 2 ^ r) :: top) ++ post := by
            rw [List.append_assoc, set_left (by simp; omega), set_take_top (by omega), List.append_assoc, List.append_assoc]; rfl
          rw [e] at hb
          exact ⟨j, _, rfl, by omega, hst, hb, (hW.out.setCell (Nat.le_refl _) _).drew⟩
        case measure => simp [intOf])
    · obtain rfl : k = 0 := by omega
      have hst := hI.out.done hr hx0e.out
      obtain rfl : x = x0 := hxe.out.symm.trans hx0e.out
      have hb := hZ.out.set64 0 _ _ (shl_nat x s)
      have e : (xs.take (0 + 1) ++ top ++ post).set 0 (x * 2 ^ s % B64) = (x * 2 ^ s % B64 :: top) ++ post := by
        obtain ⟨q, qs, rfl⟩ : ∃ q qs, xs = q :: qs := by cases xs with | nil => simp at hn0 | cons q qs => exact ⟨q, qs, rfl⟩
        simp
      rw [e] at hb
      have HST := Lib.hid hst
      have HB := Lib.hid hb
      clear hst hb hbb
      go_wp2
      go_ret
      exact ⟨x1 / 2 ^ r, _, by rw [← HV.out]; rfl, HB.out, HST.out.1, HST.out.2.1, HST.out.2.2, Nat.lt_of_le_of_lt (Nat.div_le_self _ _) hx1b, hW.out.setCell (Nat.le_refl _) _⟩
end Go.Proofs.YtikdhkmcdmnadaaGreatFmt
