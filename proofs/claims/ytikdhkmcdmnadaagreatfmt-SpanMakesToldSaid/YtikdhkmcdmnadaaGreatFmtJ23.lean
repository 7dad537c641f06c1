/- Walks and plain laws of this seat's functions, part 23: G8 G9 G10 G11. -/
import Derived.Test.YtikdhkmcdmnadaaGreatFmtJ22
set_option linter.unusedVariables false
set_option linter.unusedSimpArgs false
namespace Go.Proofs.YtikdhkmcdmnadaaGreatFmt
open Go.RowKit

/-! ### round where nothing is cut off; setExpAndRound; fnorm -/
theorem u32w (n : Nat) (h : n < 4294967296) : IntKind.u32.wrap (n : Int) = n := by simp [IntKind.wrap, IntKind.bits, IntKind.signed]; omega
set_option maxHeartbeats 1000000 in
set_option maxRecDepth 100000 in
theorem round_fit (b n c : Nat) (acc ex : Int) (neg : Bool) (A : Option Addr) (w : World) (hb : Blk w b 82 (fC 2300 acc 1 neg (.slice A n c) ex)) (hn : n ≤ 35) :
    Calls Tryz.prog 64 #[.pointer (some ⟨b, 0, none⟩), .int .u64 0] w fun e w' => e = .returned (.tuple #[]) ∧ Blk w' b 82 (fC 2300 0 1 neg (.slice A n c) ex) ∧ Only b w w' := by
  obtain ⟨c0, c1, c2, c3, c4, c5, c6⟩ := sev hb
  obtain ⟨f0, f1, f2, f3, f4, f5, f6⟩ := frz hb
  have h1 := u32w n (by omega)
  have h2 : IntKind.u32.wrap ((n : Int) * 64) = (n : Int) * 64 := by simp [IntKind.wrap, IntKind.bits, IntKind.signed]; omega
  have h3 : (n : Int) * 64 ≤ 2300 := by omega
  go_enter Tryz.func64, Tryz.ntmps64
  go_wp2
  exact bodyPost_ret (v := .tuple #[]) (by simp [results, Tryz.results64, go_sem]) rfl ⟨rfl, hb.set 2 (.int .i8 0), (Only.refl b w).setCell (p := ⟨b, 2, none⟩) rfl _⟩
set_option maxHeartbeats 1000000 in
set_option maxRecDepth 100000 in
theorem setexp_calls (b n c : Nat) (acc form ex0 ex : Int) (neg : Bool) (A : Option Addr) (w : World) (hb : Blk w b 82 (fC 2300 acc form neg (.slice A n c) ex0)) (hn : n ≤ 35) (he : -20000 ≤ ex ∧ ex ≤ 20000) :
    Calls Tryz.prog 86 #[.pointer (some ⟨b, 0, none⟩), .int .i64 ex, .int .u64 0] w fun e w' => e = .returned (.tuple #[]) ∧ Blk w' b 82 (fC 2300 0 1 neg (.slice A n c) ex) ∧ Only b w w' := by
  obtain ⟨c0, c1, c2, c3, c4, c5, c6⟩ := sev hb
  obtain ⟨f0, f1, f2, f3, f4, f5, f6⟩ := frz hb
  have h1 : ¬ ex < -2147483648 := by omega
  have h2 : ¬ 2147483647 < ex := by omega
  have hwi : IntKind.i32.wrap ex = ex := by simp [IntKind.wrap, IntKind.bits, IntKind.signed]; omega
  have hB : Blk ((w.setCell ⟨b, 3, none⟩ (.int .u8 1)).setCell ⟨b, 6, none⟩ (.int .i32 ex)) b 82 (fC 2300 acc 1 neg (.slice A n c) ex) := (hb.set 3 (.int .u8 1)).set 6 (.int .i32 ex)
  have HW := Lib.hid (((Only.refl b w).setCell (p := ⟨b, 3, none⟩) rfl (.int .u8 1)).setCell (p := ⟨b, 6, none⟩) rfl (.int .i32 ex))
  have HR := Lib.hid (round_fit b n c acc ex neg A _ hB hn)
  clear hB he
  go_enter Tryz.func86, Tryz.ntmps86
  go_wp2_with fail
  refine HR.out.mono ?_
  rintro e w2 ⟨rfl, hb2, hW2⟩
  have H2 := Lib.hid (And.intro hb2 (HW.out.trans hW2))
  clear hb2 hW2
  go_wp2
  go_end0
  exact ⟨rfl, H2.out.1, H2.out.2⟩
theorem shl_top64 {m n s : Nat} (h1 : bl m + s = 64 * n) (h0 : m ≠ 0) : m * 2 ^ s < B64 ^ n := by
  rw [pow64, ← h1, Nat.pow_add]
  exact Nat.mul_lt_mul_of_pos_right (bl_lt m) (Nat.pow_pos (by decide))
/-- the words of a number are as many as it needs -/
theorem words_of {xs : List Nat} {n : Nat} (hl : xs.length = n) (hb : ∀ d ∈ xs, d < B64) (ht : Trimmed xs) (h0 : val B64 xs ≠ 0) : 0 < n ∧ 64 * (n - 1) < bl (val B64 xs) ∧ bl (val B64 xs) = 64 * (n - 1) + bl (xs.getD (n - 1) 0) ∧ 0 < xs.getD (n - 1) 0 := by
  subst hl
  rcases ht with h | h
  · subst h; exact absurd rfl h0
  · have hn : 0 < xs.length := by
      rcases Nat.eq_zero_or_pos xs.length with h2 | h2
      · have := List.length_eq_zero_iff.1 h2; subst this; exact absurd rfl h0
      · exact h2
    have hv := bl_val64 (xs := xs) (k := xs.length - 1) (by omega) hb rfl (by omega)
    have hp := bl_pos (m := xs.getD (xs.length - 1) 0) (by omega)
    exact ⟨hn, by omega, hv, h⟩
set_option maxHeartbeats 2000000 in
set_option maxRecDepth 100000 in
theorem fnorm_calls (A : Option Addr) (n c m B : Nat) (w : World) (hO : OwnN w B m (.slice A n c)) (h0 : m ≠ 0) :
    Calls Tryz.prog 87 #[.slice A n c] w fun e w' => e = .returned (.int .i64 ((64 * n - bl m : Nat) : Int)) ∧ OwnN w' B (m * 2 ^ (64 * n - bl m)) (.slice A n c) ∧ bl m + (64 * n - bl m) = 64 * n ∧ 0 < n ∧ Below B w w' := by
  rcases hO with ⟨_, h⟩ | ⟨g, Z, n', hs, hg, hb, hz, hn, hl, ht, hv⟩
  · exact absurd h h0
  · injection hs with hs1 hs2 hs3
    subst hs1 hs2 hs3
    have hxl : (Z.take n).length = n := by rw [List.length_take]; omega
    have hxb : ∀ d ∈ Z.take n, d < B64 := fun d hd => hz d (List.mem_of_mem_take hd)
    obtain ⟨w1, w2, w3, w4⟩ := words_of hxl hxb ht (by rw [hv]; exact h0)
    rw [hv] at w2 w3
    obtain ⟨x, hx⟩ : ∃ x, (Z.take n).getD (n - 1) 0 = x := ⟨_, rfl⟩
    rw [hx] at w3 w4
    have hxlt : x < B64 := by rw [← hx]; exact getD_mem_lt hxb (by omega)
    have hbx : bl x ≤ 64 := bl_le_of_lt (by simpa [B64] using hxlt)
    obtain ⟨s, hs⟩ : ∃ s, 64 * n - bl m = s := ⟨_, rfl⟩
    have hsx : 64 - bl x = s := by omega
    have hsum : bl m + s = 64 * n := by omega
    have hbxp := bl_pos (m := x) (by omega)
    rw [hs]
    obtain ⟨z, hcz, _, _, hze⟩ := hb.at64 (i := n - 1) (by omega) hz
    obtain rfl : z = x := by
      have e : (Z.take n).getD (n - 1) 0 = Z.getD (n - 1) 0 := by rw [List.getD_eq_getElem?_getD, List.getD_eq_getElem?_getD, List.getElem?_take, if_pos (by omega)]
      rw [← hx, e, hze.out]
    have HL := Lib.hid (fun W => nlz_calls z W hxlt)
    rw [hsx] at HL
    have hn1 : (n : Int) - 1 = ((n - 1 : Nat) : Int) := by omega
    have hn2 : (0 : Int) ≤ ((n - 1 : Nat) : Int) := by omega
    have hn3 : ((n - 1 : Nat) : Int) < (n : Int) := by omega
    have hsplit : Z.take n ++ Z.drop n = Z := List.take_append_drop _ _
    rcases Nat.eq_zero_or_pos s with hs0 | hs0
    · subst hs0
      have HF : Hid (OwnN w B (m * 2 ^ 0) (.slice (some ⟨g, 0, none⟩) n Z.length)) := by
        rw [Hid, Nat.pow_zero, Nat.mul_one]; exact .inr ⟨g, Z, n, rfl, hg, hb, hz, hn, hl, ht, hv⟩
      have HSM := Lib.hid hsum
      have HW1 := Lib.hid w1
      clear hs hsx hsum hbxp hbx hxlt hx w2 w3 w4 w1 hze hsplit hxb hxl hb hz ht hv h0 hg
      go_enter Tryz.func87, Tryz.ntmps87
      go_wp2_with fail
      refine (HL.out _).mono ?_
      rintro e w' ⟨rfl, rfl⟩
      go_wp2
      go_ret
      exact ⟨rfl, HF.out, HSM.out, HW1.out, Below.refl _ _⟩
    · have HLS := Lib.hid (lshVU_self n Z.length Z.length g s (Z.take n) (Z.drop n) w hxl (by rw [hsplit]; exact hb) (by rw [hsplit]; exact hz) hs0 (by omega) w1 (by omega))
      have HV : Hid (val B64 (Z.take n) = m ∧ m * 2 ^ s < B64 ^ n ∧ B ≤ g ∧ n ≤ Z.length ∧ Z.length ≤ 1099511627776 ∧ (∀ d ∈ Z.drop n, d < B64) ∧ bl m + s = 64 * n ∧ m ≠ 0) := ⟨hv, shl_top64 hsum h0, hg, hn, hl, fun d hd => hz d (List.mem_of_mem_drop hd), hsum, h0⟩
      have HW1 := Lib.hid w1
      have hsp : (0 : Int) < (s : Int) := by omega
      have hwi : IntKind.i64.wrap (s : Int) = s := IntWalk.i64_in _ (by omega)
      clear hs hsx hsum hbxp hbx hxlt hx w2 w3 w4 w1 hze hsplit hxb hxl hb hz ht hv h0 hg hs0
      go_enter Tryz.func87, Tryz.ntmps87
      go_wp2_with fail
      refine (HL.out _).mono ?_
      rintro e w' ⟨rfl, rfl⟩
      go_wp2_with fail
      refine HLS.out.mono ?_
      rintro e w2 ⟨v, ys, rfl, hb2, hyl, hyb, hye, hvb, hW2⟩
      have H2 : Hid (OwnN w2 B (m * 2 ^ s) (.slice (some ⟨g, 0, none⟩) n Z.length) ∧ Below B w w2) := by
        obtain ⟨v1, v2, v3, v4, v5, v6, v7, v8⟩ := HV.out
        rw [v1] at hye
        have hv0 : v = 0 := by
          rcases Nat.eq_zero_or_pos v with h | h
          · exact h
          · have : B64 ^ n * 1 ≤ B64 ^ n * v := Nat.mul_le_mul_left _ h
            omega
        rw [hv0, Nat.mul_zero, Nat.add_zero] at hye
        refine ⟨.inr ⟨g, ys ++ Z.drop n, n, by rw [List.length_append, hyl, List.length_drop, show n + (Z.length - n) = Z.length from by omega], v3, hb2, ?_, ?_, ?_, ?_, ?_⟩, hW2.mono v3⟩
        · intro d hd
          rcases List.mem_append.1 hd with h | h
          · exact hyb d h
          · exact v6 d h
        · rw [List.length_append, hyl]; omega
        · rw [List.length_append, hyl, List.length_drop]; omega
        · rw [List.take_left' hyl]
          right
          rcases Nat.eq_zero_or_pos (ys.getD (ys.length - 1) 0) with h | h
          · exfalso
            have hn0 := HW1.out
            have hys : ys = ys.take (n - 1) ++ [0] := by
              have := take_snoc' (xs := ys) (i := n - 1) (by omega)
              rw [show n - 1 + 1 = ys.length from by omega, List.take_length] at this
              rw [hyl] at h
              rw [h] at this
              exact this
            have hlt : val B64 ys < B64 ^ (n - 1) := by
              rw [hys, val_append]
              have := val_lt (B := B64) (by decide) (ys.take (n - 1)) (fun d hd => hyb d (List.mem_of_mem_take hd))
              rw [List.length_take, Nat.min_eq_left (by omega)] at this
              simpa [val] using this
            rw [hye, pow64] at hlt
            have hbl := bl_mul_pow v8 s
            have := bl_le_of_lt hlt
            omega
          · exact h
        · rw [List.take_left' hyl]; exact hye
      have HSM : Hid (bl m + s = 64 * n) := HV.out.2.2.2.2.2.2.1
      clear hb2 hyl hyb hye hvb hW2
      go_wp2
      go_ret
      exact ⟨rfl, H2.out.1, HSM.out, HW1.out, H2.out.2⟩
end Go.Proofs.YtikdhkmcdmnadaaGreatFmt

namespace Go.Proofs.YtikdhkmcdmnadaaGreatFmt
open Go.RowKit

/-! ### products of one-word mantissas -/
@[go_sem] theorem run_mulAddVWW (a b c d : Value) (w : World) : (callFunc 131 #[a, b, c, d]).run Tryz.prog w = .ok (.enter 61 #[a, b, c, d]) w := by kernel_rfl
set_option maxHeartbeats 1000000 in
theorem bmul_calls (x y : Nat) (hx : x < 18446744073709551616) (hy : y < 18446744073709551616) (w : World) :
    Calls Tryz.prog 120 #[.int .u64 x, .int .u64 y] w fun e w' => e = .returned (.tuple #[.int .u64 ((x * y / 18446744073709551616 : Nat) : Int), .int .u64 ((x * y % 18446744073709551616 : Nat) : Int)]) ∧ w = w' := by
  have HM := Lib.hid (fun W => mul64_calls x y hx hy W)
  obtain ⟨hi, hhi⟩ : ∃ h, x * y / 18446744073709551616 = h := ⟨_, rfl⟩
  obtain ⟨lo, hlo⟩ : ∃ h, x * y % 18446744073709551616 = h := ⟨_, rfl⟩
  rw [hhi, hlo] at HM ⊢
  have h1 : hi < 18446744073709551616 := by rw [← hhi]; exact Nat.div_lt_of_lt_mul (Nat.mul_lt_mul'' hx hy)
  have h2 : lo < 18446744073709551616 := by rw [← hlo]; exact Nat.mod_lt _ (by decide)
  have hw1 := u64w hi h1
  have hw2 := u64w lo h2
  have hw3 := u64w x hx
  have hw4 := u64w y hy
  clear hhi hlo hx hy h1 h2
  go_enter Tryz.func120, Tryz.ntmps120
  go_wp2_with fail
  refine (HM.out _).mono ?_
  rintro e w' ⟨rfl, rfl⟩
  go_wp2
  go_ret2
  exact ⟨rfl, rfl⟩
set_option maxHeartbeats 1000000 in
theorem www_calls (x y : Nat) (hx : x < 18446744073709551616) (hy : y < 18446744073709551616) (w : World) :
    Calls Tryz.prog 122 #[.int .u64 x, .int .u64 y, .int .u64 0] w fun e w' => e = .returned (.tuple #[.int .u64 ((x * y / 18446744073709551616 : Nat) : Int), .int .u64 ((x * y % 18446744073709551616 : Nat) : Int)]) ∧ w = w' := by
  have HM := Lib.hid (fun W => bmul_calls x y hx hy W)
  obtain ⟨hi, hhi⟩ : ∃ h, x * y / 18446744073709551616 = h := ⟨_, rfl⟩
  obtain ⟨lo, hlo⟩ : ∃ h, x * y % 18446744073709551616 = h := ⟨_, rfl⟩
  rw [hhi, hlo] at HM ⊢
  have h1 : hi < 18446744073709551616 := by rw [← hhi]; exact Nat.div_lt_of_lt_mul (Nat.mul_lt_mul'' hx hy)
  have h2 : lo < 18446744073709551616 := by rw [← hlo]; exact Nat.mod_lt _ (by decide)
  have HA := Lib.hid (fun W => badd_calls lo 0 0 lo 0 (.inl rfl) (by simp; omega) (by simp; omega) W)
  have hw1 := u64w hi h1
  have hw2 := u64w lo h2
  have hw3 := u64w x hx
  have hw4 := u64w y hy
  clear hhi hlo hx hy h1 h2
  go_enter Tryz.func122, Tryz.ntmps122
  go_wp2_with fail
  refine (HM.out _).mono ?_
  rintro e w' ⟨rfl, rfl⟩
  go_wp2_with fail
  refine (HA.out _).mono ?_
  rintro e w' ⟨rfl, rfl⟩
  go_wp2
  go_ret2
  exact ⟨rfl, rfl⟩
set_option maxHeartbeats 1000000 in
set_option maxRecDepth 100000 in
/-- one word -/
theorem vww_one (g cz cx x y : Nat) (Z : List Nat) (a : Addr) (w : World) (hg : Blk w g 109 (i64s Z)) (hz : ∀ d ∈ Z, d < B64) (hl : 0 < Z.length) (hcx : w.cell? a = some (.int .u64 x)) (hx : x < 18446744073709551616) (hy : y < 18446744073709551616) :
    Calls Tryz.prog 61 #[.slice (some ⟨g, 0, none⟩) 1 cz, .slice (some a) 1 cx, .int .u64 y, .int .u64 0] w fun e w' => e = .returned (.int .u64 ((x * y / 18446744073709551616 : Nat) : Int)) ∧ Blk w' g 109 (i64s (Z.set 0 (x * y % 18446744073709551616))) ∧ Below g w w' := by
  have HM := Lib.hid (fun W => www_calls x y hx hy W)
  obtain ⟨hi, hhi⟩ : ∃ h, x * y / 18446744073709551616 = h := ⟨_, rfl⟩
  obtain ⟨lo, hlo⟩ : ∃ h, x * y % 18446744073709551616 = h := ⟨_, rfl⟩
  rw [hhi, hlo] at HM ⊢
  obtain ⟨z0, hz0, hzf, _, _⟩ := hg.at64 hl hz
  have HG := Lib.hid hg
  clear hhi hlo hx hy hg hz hl
  go_enter Tryz.func61, Tryz.ntmps61
  go_wp2
  go_loopw [8, 9, 19] (fun c _ i wr => (i = .int .i64 0 ∧ c = .int .u64 0 ∧ wr = w) ∨ (i = .int .i64 1 ∧ c = .int .u64 hi ∧ wr = w.setCell ⟨g, 0, none⟩ (.int .u64 lo))) (fun _ _ i _ => (1 - intOf i).toNat)
  case atStart => exact .inl (by refine ⟨?_, ?_, ?_⟩ <;> first | rfl | trivial)
  case round =>
    rcases hrel with ⟨rfl, rfl, rfl⟩ | ⟨rfl, rfl, rfl⟩
    · go_wp2_with fail
      refine (HM.out _).mono ?_
      rintro e w' ⟨rfl, rfl⟩
      go_wp2
      go_roundw
      case rel => exact .inr (by refine ⟨?_, ?_, ?_⟩ <;> first | rfl | trivial)
      case measure => simp [intOf]
    · go_wp2
      go_ret
      exact ⟨rfl, HG.out.set64 0 lo _ rfl, (Below.refl g w).setCell (p := ⟨g, 0, none⟩) (Nat.le_refl _) _⟩
end Go.Proofs.YtikdhkmcdmnadaaGreatFmt

namespace Go.Proofs.YtikdhkmcdmnadaaGreatFmt
open Go.RowKit

/-- a number of one word, the uppermost bit set -/
theorem OwnN.one {w : World} {B m : Nat} {v : Value} (h : OwnN w B m v) (hb : bl m = 64) : ∃ g c, v = .slice (some ⟨g, 0, none⟩) 1 c ∧ 1 ≤ c ∧ c ≤ 1099511627776 ∧ w.cell? ⟨g, 0, none⟩ = some (.int .u64 m) ∧ m < 18446744073709551616 ∧ 0 < m ∧ g < w.heap.size := by
  have h0 : m ≠ 0 := by intro h; subst h; rw [bl_zero] at hb; omega
  rcases h with ⟨_, h⟩ | ⟨g, Z, n, rfl, hg, hB, hz, hn, hl, ht, hv⟩
  · exact absurd h h0
  · have hxl : (Z.take n).length = n := by rw [List.length_take]; omega
    have hxb : ∀ d ∈ Z.take n, d < B64 := fun d hd => hz d (List.mem_of_mem_take hd)
    obtain ⟨w1, w2, w3, w4⟩ := words_of hxl hxb ht (by rw [hv]; exact h0)
    rw [hv] at w2 w3
    have hlt : (Z.take n).getD (n - 1) 0 < B64 := getD_mem_lt hxb (by omega)
    have hbx : bl ((Z.take n).getD (n - 1) 0) ≤ 64 := bl_le_of_lt (by simpa [B64] using hlt)
    have hbp := bl_pos (m := (Z.take n).getD (n - 1) 0) (by omega)
    obtain rfl : n = 1 := by omega
    obtain ⟨z, hcz, _, hzb, hze⟩ := hB.at64 (i := 0) (by omega) hz
    have e : val B64 (Z.take 1) = z := by
      have h1 := take_snoc' (xs := Z) (i := 0) (by omega)
      have h2 := hze.out
      rw [h1, List.take_zero, h2]; simp [val]
    rw [hv] at e
    subst e
    exact ⟨g, Z.length, rfl, hn, hl, hcz, hzb, by omega, hB.lt⟩
theorem val_two64 {Z : List Nat} {p : Nat} (hl : 2 ≤ Z.length) : val B64 (((Z.set 0 (p % 18446744073709551616)).set 1 (p / 18446744073709551616)).take 2) = p := by
  obtain ⟨a, b, Z', rfl⟩ : ∃ a b Z', Z = a :: b :: Z' := by
    cases Z with
    | nil => simp at hl
    | cons a Z => cases Z with
      | nil => simp at hl
      | cons b Z => exact ⟨a, b, Z, rfl⟩
  simp only [List.set_cons_zero, List.set_cons_succ, List.take_succ_cons, List.take_zero, val, B64]
  omega
set_option maxHeartbeats 2000000 in
set_option maxRecDepth 100000 in
theorem mulAddWW_one (x : Value) (m1 y B1 : Nat) (w : World) (hx : OwnN w B1 m1 x) (hb : bl m1 = 64) (hy0 : 0 < y) (hy : y < 18446744073709551616) :
    Calls Tryz.prog 106 #[.slice none 0 0, x, .int .u64 y, .int .u64 0] w fun e w' => ∃ v, e = .returned v ∧ OwnN w' w.heap.size (m1 * y) v ∧ Below w.heap.size w w' := by
  obtain ⟨gx, cx, rfl, c1, c2, hcx, hm, hm0, hgx⟩ := hx.one hb
  have HMK := Lib.hid (nmake_dest (.slice none 0 0) 0 2 w w.heap.size (.inl ⟨rfl, rfl⟩) (Nat.le_refl _) (by decide) (by decide))
  have HV := Lib.hid (fun g cz Z W (hg : Blk W g 109 (i64s Z)) (hz : ∀ d ∈ Z, d < B64) (hl : 0 < Z.length) (hc : W.cell? ⟨gx, 0, none⟩ = some (.int .u64 m1)) => vww_one g cz cx m1 y Z ⟨gx, 0, none⟩ W hg hz hl hc hm hy)
  have hyz : ((y : Int) == 0) = false := by simp; omega
  obtain ⟨hi, hhi⟩ : ∃ h, m1 * y / 18446744073709551616 = h := ⟨_, rfl⟩
  obtain ⟨lo, hlo⟩ : ∃ h, m1 * y % 18446744073709551616 = h := ⟨_, rfl⟩
  have HP : Hid (m1 * y / 18446744073709551616 = hi ∧ m1 * y % 18446744073709551616 = lo ∧ hi < 18446744073709551616 ∧ lo < 18446744073709551616) :=
    ⟨hhi, hlo, by rw [← hhi]; exact Nat.div_lt_of_lt_mul (Nat.mul_lt_mul'' hm hy), by rw [← hlo]; exact Nat.mod_lt _ (by decide)⟩
  rw [hhi, hlo] at HV
  clear hhi hlo hm hm0 hy hy0 hb hx
  go_enter Tryz.func106, Tryz.ntmps106
  go_wp2_with fail
  refine HMK.out.mono ?_
  rintro e w2 ⟨g, Z, rfl, hg, hbk, hz, hn, hl, hW, _⟩
  have HK := Lib.hid (And.intro hg (And.intro hbk (And.intro hz (And.intro hn (And.intro hl hW)))))
  have hc2 : w2.cell? ⟨gx, 0, none⟩ = some (.int .u64 m1) := cell_kept hW hcx
  have hZ2 : (2 : Int) ≤ (Z.length : Int) := by omega
  have HV2 := Lib.hid (HV.out g Z.length Z w2 hbk hz (by omega) hc2)
  clear hg hbk hz hl hW hn HV hcx hgx
  go_wp2_with fail
  refine HV2.out.mono ?_
  rintro e w3 ⟨rfl, hb3, hW3⟩
  have H3 := Lib.hid (And.intro hb3 hW3)
  obtain ⟨z1, hc3, hf3, _, _⟩ := hb3.at64 (i := 1) (by have := HK.out.2.2.2.1; simp; omega) (mem_set HK.out.2.2.1 HP.out.2.2.2)
  have HNR : Hid (∀ W, Blk W g 109 (i64s ((Z.set 0 lo).set 1 hi)) → Calls Tryz.prog 99 #[.slice (some ⟨g, 0, none⟩) 2 Z.length] W fun e w' => e = .returned (.slice (some ⟨g, 0, none⟩) (trimLen (((Z.set 0 lo).set 1 hi).take 2) 2) Z.length) ∧ W = w') := by
    intro W hW
    obtain ⟨k1, k2, k3, k4, k5, k6⟩ := HK.out
    refine norm_calls _ 2 Z.length 109 0 (((Z.set 0 lo).set 1 hi).take 2) W (by simp; omega) ?_ (by decide) k4
    refine u64row hW ?_ 2
    exact mem_set (mem_set k3 HP.out.2.2.2) HP.out.2.2.1
  clear hb3 hW3
  go_wp2_with fail
  have hb4 := H3.out.1.set64 1 hi _ rfl
  refine (HNR.out _ hb4).mono ?_
  rintro e w4 ⟨rfl, rfl⟩
  have HF : Hid (OwnN (w3.setCell ⟨g, 1, none⟩ (.int .u64 hi)) w.heap.size (m1 * y) (.slice (some ⟨g, 0, none⟩) (trimLen (((Z.set 0 lo).set 1 hi).take 2) 2) Z.length) ∧ Below w.heap.size w (w3.setCell ⟨g, 1, none⟩ (.int .u64 hi))) := by
    obtain ⟨k1, k2, k3, k4, k5, k6⟩ := HK.out
    constructor
    · have h := OwnN.norm (B := w.heap.size) (n := 2) (m := m1 * y) hb4 k1 (mem_set (mem_set k3 HP.out.2.2.2) HP.out.2.2.1) (by simp; omega) (by simp; omega) (by rw [← HP.out.1, ← HP.out.2.1]; exact val_two64 k4)
      rwa [List.length_set, List.length_set] at h
    · exact (k6.trans (H3.out.2.mono k1)).setCell (p := ⟨g, 1, none⟩) k1 _
  clear hb4 hc3 hf3
  go_wp2
  go_ret
  exact ⟨_, rfl, HF.out.1, HF.out.2⟩
set_option maxHeartbeats 2000000 in
set_option maxRecDepth 100000 in
theorem nmul_one (x y : Value) (m1 m2 B1 B2 : Nat) (w : World) (hx : OwnN w B1 m1 x) (hb : bl m1 = 64) (hy : OwnN w B2 m2 y) (hb2 : bl m2 = 64) :
    Calls Tryz.prog 85 #[.slice none 0 0, .pointer none, x, y] w fun e w' => ∃ v, e = .returned v ∧ OwnN w' w.heap.size (m1 * m2) v ∧ Below w.heap.size w w' := by
  obtain ⟨gy, cy, rfl, c1, c2, hcy, hm, hm0, hgy⟩ := hy.one hb2
  obtain ⟨gx, cx, rfl, d1, d2, hcx, hn, hn0, hgx⟩ := hx.one hb
  have HM := Lib.hid (fun W (hW : W = w) => (show Calls Tryz.prog 106 #[.slice none 0 0, .slice (some ⟨gx, 0, none⟩) 1 cx, .int .u64 m2, .int .u64 0] W fun e w' => ∃ v, e = .returned v ∧ OwnN w' W.heap.size (m1 * m2) v ∧ Below W.heap.size W w' from by subst hW; exact mulAddWW_one _ m1 m2 B1 _ hx hb hm0 hm))
  clear hx hb hy hb2 hm hm0 hn hn0 hcx
  go_enter Tryz.func85, Tryz.ntmps85
  go_wp2_with fail
  refine (HM.out _ rfl).mono ?_
  rintro e w2 ⟨v, rfl, hO, hW⟩
  obtain ⟨A, n, c, rfl, _⟩ := hO.shape
  have H2 := Lib.hid (And.intro hO hW)
  clear hO hW
  go_wp2
  go_ret
  exact ⟨_, rfl, H2.out.1, H2.out.2⟩
end Go.Proofs.YtikdhkmcdmnadaaGreatFmt

namespace Go.Proofs.YtikdhkmcdmnadaaGreatFmt
open Go.RowKit
attribute [local go_sem ↓] Go.wp_at_zero Go.wp_at_succ

theorem flt_info : ∃ i, Tryz.prog.info? 82 = some i ∧ i.size = 7 := by
  have h : (Tryz.prog.info? 82).map (fun i => i.size) = some 7 := by kernel_rfl
  cases hi : Tryz.prog.info? 82 with
  | none => rw [hi] at h; cases h
  | some i => rw [hi] at h; injection h with h; exact ⟨i, rfl, h⟩
theorem eql_flt_other (w : World) {a b : Addr} {ca cb : Array Value} {ta tb : TypeId} (hne : a ≠ b) (ha : w.heap[a.block]? = some (.cells ca ta (0, 0))) (hb : w.heap[b.block]? = some (.cells cb tb (0, 0))) :
    (binOp .eql 74 (.pointer (some a)) (.pointer (some b))).run Tryz.prog w = .ok (.bool false) w := by
  obtain ⟨i, hi, hs⟩ := flt_info
  have hp : Tryz.prog.underlying 74 = some (.pointer 82) := by kernel_rfl
  have h : ∀ d : Nat, (Op.equalIn (d + 1) 74 (.pointer (some a)) (.pointer (some b))).run Tryz.prog w = .ok false w := fun d => by
    simp [Op.equalIn, run_underlying hp, sizeOf, typeInfo, hi, hs, run_sameAddr_other w hne ha hb]
  simp only [binOp]
  simp [Op.equal, Op.maxDepth, h 9999]
theorem OwnN.words {w : World} {B m n c : Nat} {A : Option Addr} (h : OwnN w B m (.slice A n c)) (h0 : m ≠ 0) : 0 < n ∧ 64 * (n - 1) < bl m ∧ bl m ≤ 64 * n := by
  rcases h with ⟨_, h⟩ | ⟨g, Z, n', hs, hg, hb, hz, hn, hl, ht, hv⟩
  · exact absurd h h0
  · injection hs with hs1 hs2 hs3
    subst hs1 hs2 hs3
    have hxl : (Z.take n).length = n := by rw [List.length_take]; omega
    have hxb : ∀ d ∈ Z.take n, d < B64 := fun d hd => hz d (List.mem_of_mem_take hd)
    obtain ⟨w1, w2, w3, w4⟩ := words_of hxl hxb ht (by rw [hv]; exact h0)
    rw [hv] at w2 w3
    have hbx : bl ((Z.take n).getD (n - 1) 0) ≤ 64 := bl_le_of_lt (by simpa [B64] using getD_mem_lt hxb (by omega : n - 1 < (Z.take n).length))
    exact ⟨w1, w2, by omega⟩
/-- fnorm of the mantissa of a Float whose cells lie below it -/
theorem fnorm_at (A : Option Addr) (n c S B bz : Nat) (cs : List Value) (w : World) (hO : OwnN w B S (.slice A n c)) (h0 : S ≠ 0) (hS : bl S ≤ 2240) (hb : Blk w bz 82 cs) (hB : bz < B) :
    Calls Tryz.prog 87 #[.slice A n c] w fun e w' => ∃ s : Nat, e = .returned (.int .i64 (s : Int)) ∧ bl S + s = 64 * n ∧ s < 64 ∧ 0 < n ∧ n ≤ 35 ∧ OwnN w' B (S * 2 ^ s) (.slice A n c) ∧ Blk w' bz 82 cs ∧ Below B w w' := by
  obtain ⟨w1, w2, w3⟩ := hO.words h0
  refine (fnorm_calls A n c S B w hO h0).mono ?_
  rintro e w' ⟨rfl, h1, h2, h3, h4⟩
  exact ⟨64 * n - bl S, rfl, h2, by omega, h3, by omega, h1, hb.below h4 hB, h4⟩
theorem OwnN.only {w w' : World} {B g m : Nat} {v : Value} (h : OwnN w B m v) (ho : Only g w w') (hg : g < B) : OwnN w' B m v := by
  rcases h with h | ⟨k, Z, n, h1, h2, h3, h4⟩
  · exact .inl h
  · exact .inr ⟨k, Z, n, h1, h2, (ho.block k (by omega)).trans h3, h4⟩
/-! ### Mul -/
set_option maxHeartbeats 4000000 in
set_option maxRecDepth 100000 in
theorem umul_one (bz bx bY m1 m2 B1 B2 : Nat) (ax ay ex ey : Int) (neg nx ny : Bool) (vx vy : Value) (w : World) (hz : Blk w bz 82 (fC 2300 0 0 neg (.slice none 0 0) 0)) (hx : Blk w bx 82 (fC 2300 ax 1 nx vx ex)) (hy : Blk w bY 82 (fC 2300 ay 1 ny vy ey))
    (ox : OwnN w B1 m1 vx) (oy : OwnN w B2 m2 vy) (l1 : bl m1 = 64) (l2 : bl m2 = 64) (hne : bx ≠ bY) (he1 : -9000 ≤ ex ∧ ex ≤ 9000) (he2 : -9000 ≤ ey ∧ ey ≤ 9000) :
    Calls Tryz.prog 66 #[.pointer (some ⟨bz, 0, none⟩), .pointer (some ⟨bx, 0, none⟩), .pointer (some ⟨bY, 0, none⟩)] w fun e w' => e = .returned (.tuple #[]) ∧
      ∃ (v : Value) (s n : Nat) (B : Nat), bl (m1 * m2) + s = 64 * n ∧ 0 < n ∧ n ≤ 2 ∧ s < 64 ∧ Blk w' bz 82 (fC 2300 0 1 neg v (ex + ey - s)) ∧ OwnN w' B (m1 * m2 * 2 ^ s) v ∧ Below bz w w' := by
  obtain ⟨gx, cx, rfl, x1, x2, hcx, hm, hm0, hgx⟩ := ox.one l1
  obtain ⟨gy, cy, rfl, y1, y2, hcy, hn, hn0, hgy⟩ := oy.one l2
  obtain ⟨c0, c1, c2, c3, c4, c5, c6⟩ := sev hx
  obtain ⟨d0, d1, d2, d3, d4, d5, d6⟩ := sev hy
  obtain ⟨z0, z1, z2, z3, z4, z5, z6⟩ := sev hz
  have hw1 : IntKind.i64.wrap ex = ex := IntWalk.i64_in _ (by omega)
  have hw2 : IntKind.i64.wrap ey = ey := IntWalk.i64_in _ (by omega)
  have hw3 : IntKind.i64.wrap (ex + ey) = ex + ey := IntWalk.i64_in _ (by omega)
  have HMM : Hid (m1 * m2 ≠ 0 ∧ bl (m1 * m2) ≤ 128) := by
    refine ⟨Nat.mul_ne_zero (by omega) (by omega), bl_le_of_lt ?_⟩
    exact Nat.lt_of_lt_of_le (Nat.mul_lt_mul'' hm hn) (by decide)
  have HE := Lib.hid (And.intro he1 he2)
  have HO := Lib.hid (And.intro ox (And.intro oy (And.intro l1 l2)))
  have HZ := Lib.hid hz
  have HXB : Hid (w.drew.heap[bx]? = some (.cells (fC 2300 ax 1 nx (.slice (some ⟨gx, 0, none⟩) 1 cx) ex).toArray 82 (0, 0)) ∧ w.drew.heap[bY]? = some (.cells (fC 2300 ay 1 ny (.slice (some ⟨gy, 0, none⟩) 1 cy) ey).toArray 82 (0, 0))) := ⟨hx, hy⟩
  clear ox oy hm hm0 hn hn0 hz hx hy x1 x2 y1 y2 hcx hcy hgx hgy l1 l2
  have hpe := eql_flt_other w.drew (a := ⟨bx, 0, none⟩) (b := ⟨bY, 0, none⟩) (by intro h; injection h with h; exact hne h) HXB.out.1 HXB.out.2
  have HMU := Lib.hid (fun W (hW : Below w.heap.size w W) => nmul_one _ _ m1 m2 B1 B2 W (HO.out.1.keep hW) HO.out.2.2.1 (HO.out.2.1.keep hW) HO.out.2.2.2)
  go_enter Tryz.func66, Tryz.ntmps66
  go_upto_region 1 with fail
  go_region
  all_goals (
    go_upto_region 4 with fail
    go_region_with (go_at_call 85; refine (HMU.out _ (by (repeat (first | exact Below.refl _ _ | (with_reducible apply below_drewN) | (with_reducible apply Below.drew))))).mono ?_; rintro e w2 ⟨v, rfl, hO2, hW⟩; obtain ⟨A, n, c, rfl, _⟩ := hO2.shape; have hW2 : Below w.heap.size w w2 := below_next (by (repeat (first | exact Below.refl _ _ | (with_reducible apply below_drewN) | (with_reducible apply Below.drew)))) hW; have H2 : Hid (OwnN w2 w.heap.size (m1 * m2) (.slice A n c) ∧ Below w.heap.size w w2) := ⟨hO2, hW2⟩; obtain ⟨u0, u1, u2, u3, u4, u5, u6⟩ := sev (HZ.out.below' hW2); obtain ⟨f0, f1, f2, f3, f4, f5, f6⟩ := frz (HZ.out.below' hW2); clear hO2 hW hW2))
  all_goals (
    have hB4 : Blk (w2.setCell ⟨bz, 5, none⟩ (.slice A n c)) bz 82 (fC 2300 0 0 neg (.slice A n c) 0) := (HZ.out.below' H2.out.2).set 5 (.slice A n c)
    have hO4 : OwnN (w2.setCell ⟨bz, 5, none⟩ (.slice A n c)) w.heap.size (m1 * m2) (.slice A n c) := OwnN.setC H2.out.1 (p := ⟨bz, 5, none⟩) HZ.out.lt _
    have hW4 : Below bz w (w2.setCell ⟨bz, 5, none⟩ (.slice A n c)) := (H2.out.2.mono (Nat.le_of_lt HZ.out.lt)).setCell (p := ⟨bz, 5, none⟩) (Nat.le_refl _) _
    obtain ⟨w3, hw4⟩ : ∃ W, w2.setCell ⟨bz, 5, none⟩ (.slice A n c) = W := ⟨_, rfl⟩
    rw [hw4] at hB4 hO4 hW4 ⊢
    have H4 : Hid (Blk w3 bz 82 (fC 2300 0 0 neg (.slice A n c) 0) ∧ OwnN w3 w.heap.size (m1 * m2) (.slice A n c) ∧ Below bz w w3) := ⟨hB4, hO4, hW4⟩
    clear hw4 hB4 hO4 hW4 c0 c1 c2 c3 c4 c5 c6 d0 d1 d2 d3 d4 d5 d6 z0 z1 z2 z3 z4 z5 z6 u0 u1 u2 u3 u4 u5 u6 f0 f1 f2 f3 f4 f5 f6 hpe hw1 hw2 hw3 he1 he2
    obtain ⟨z0, z1, z2, z3, z4, z5, z6⟩ := sev H4.out.1
    have HF := Lib.hid (fnorm_at A n c (m1 * m2) w.heap.size bz _ w3 H4.out.2.1 HMM.out.1 (by have := HMM.out.2; omega) H4.out.1 HZ.out.lt)
    go_wp2_with fail
    refine HF.out.mono ?_
    rintro e w4 ⟨s, rfl, s1, s2, s3, s4, hO5, hB5, hW5⟩
    have hws : IntKind.i64.wrap (ex + ey - (s : Int)) = ex + ey - (s : Int) := IntWalk.i64_in _ (by have := HE.out; omega)
    have HS := Lib.hid (setexp_calls bz n c 0 0 0 (ex + ey - (s : Int)) neg A w4 hB5 s4 (by have := HE.out; omega))
    have H5 : Hid (bl (m1 * m2) + s = 64 * n ∧ 0 < n ∧ n ≤ 2 ∧ s < 64 ∧ OwnN w4 w.heap.size (m1 * m2 * 2 ^ s) (.slice A n c) ∧ Below bz w w4) := ⟨s1, s3, by have := HMM.out.2; omega, s2, hO5, H4.out.2.2.trans (hW5.mono (Nat.le_of_lt HZ.out.lt))⟩
    clear s1 s2 s3 s4 hO5 hB5 hW5 z0 z1 z2 z3 z4 z5 z6
    go_wp2_with fail
    refine HS.out.mono ?_
    rintro e w5 ⟨rfl, hB6, hW6⟩
    have H6 := Lib.hid (And.intro hB6 hW6)
    clear hB6 hW6 hws
    go_wp2
    go_end0
    obtain ⟨k1, k2, k3, k4, k5, k6⟩ := H5.out
    exact ⟨rfl, _, s, n, w.heap.size, k1, k2, k3, k4, H6.out.1, k5.only H6.out.2 HZ.out.lt, k6.trans H6.out.2.below⟩)
end Go.Proofs.YtikdhkmcdmnadaaGreatFmt
