/- Walks and plain laws of this seat's functions, part 22: G2 G5 G6 G7. -/
import Derived.Deep.DrawnRows
import Derived.Test.YtikdhkmcdmnadaaGreatFmtJ06
import Derived.Test.YtikdhkmcdmnadaaGreatFmtJ20
import Derived.Test.YtikdhkmcdmnadaaGreatFmtJ21
set_option linter.unusedVariables false
set_option linter.unusedSimpArgs false
namespace Go.Proofs.YtikdhkmcdmnadaaGreatFmt
open Go.RowKit

/-! ### bits of a row of words -/
theorem val_split1 (B : Nat) (xs : List Nat) (j : Nat) (hj : j < xs.length) : val B xs = val B (xs.take j) + B ^ j * (xs.getD j 0 + B * val B (xs.drop (j + 1))) := by
  rw [val_split B xs j (Nat.le_of_lt hj), drop_val' B xs j]
theorem u64w (n : Nat) (h : n < 18446744073709551616) : IntKind.u64.wrap (n : Int) = n := by rw [IntKind.wrap_u64]; omega
theorem pow64 (j : Nat) : B64 ^ j = 2 ^ (64 * j) := by rw [show (B64 : Nat) = 2 ^ 64 from by decide, ← Nat.pow_mul]
theorem val_bit {xs : List Nat} (hb : ∀ d ∈ xs, d < B64) {i : Nat} (hi : i / 64 < xs.length) : val B64 xs / 2 ^ i % 2 = xs.getD (i / 64) 0 / 2 ^ (i % 64) % 2 := by
  have hs := val_split1 B64 xs (i / 64) hi
  have hlt : val B64 (xs.take (i / 64)) < 2 ^ (64 * (i / 64)) := by
    have := val_lt (B := B64) (by decide) (xs.take (i / 64)) (fun d hd => hb d (List.mem_of_mem_take hd))
    rwa [List.length_take, Nat.min_eq_left (by omega), pow64] at this
  rw [pow64] at hs
  have ei : 2 ^ i = 2 ^ (64 * (i / 64)) * 2 ^ (i % 64) := by rw [← Nat.pow_add]; congr 1; omega
  rw [ei, ← Nat.div_div_eq_div_mul, hs]
  have hp : 0 < 2 ^ (64 * (i / 64)) := Nat.pow_pos (by decide)
  rw [Nat.add_mul_div_left _ _ hp, Nat.div_eq_of_lt hlt, Nat.zero_add]
  have e64 : B64 = 2 ^ (i % 64) * (2 * 2 ^ (63 - i % 64)) := by
    rw [show (B64 : Nat) = 2 ^ 64 from by decide, ← Nat.pow_succ', ← Nat.pow_add]; congr 1; omega
  generalize val B64 (xs.drop (i / 64 + 1)) = T
  rw [e64, Nat.mul_assoc, Nat.add_mul_div_left _ _ (Nat.pow_pos (by decide)), Nat.mul_assoc, Nat.add_mul_mod_self_left]
theorem val_low {xs : List Nat} (hb : ∀ d ∈ xs, d < B64) {i : Nat} (hi : i / 64 < xs.length) : val B64 xs % 2 ^ i = val B64 (xs.take (i / 64)) + 2 ^ (64 * (i / 64)) * (xs.getD (i / 64) 0 % 2 ^ (i % 64)) := by
  have hs := val_split1 B64 xs (i / 64) hi
  have hlt : val B64 (xs.take (i / 64)) < 2 ^ (64 * (i / 64)) := by
    have := val_lt (B := B64) (by decide) (xs.take (i / 64)) (fun d hd => hb d (List.mem_of_mem_take hd))
    rwa [List.length_take, Nat.min_eq_left (by omega), pow64] at this
  rw [pow64] at hs
  have ei : 2 ^ i = 2 ^ (64 * (i / 64)) * 2 ^ (i % 64) := by rw [← Nat.pow_add]; congr 1; omega
  have hp : 0 < 2 ^ (64 * (i / 64)) := Nat.pow_pos (by decide)
  rw [ei, Nat.mod_mul, hs, Nat.add_mul_div_left _ _ hp, Nat.div_eq_of_lt hlt, Nat.zero_add, Nat.add_mul_mod_self_left, Nat.mod_eq_of_lt hlt]
  have e64 : B64 = 2 ^ (i % 64) * 2 ^ (64 - i % 64) := by
    rw [show (B64 : Nat) = 2 ^ 64 from by decide, ← Nat.pow_add]; congr 1; omega
  generalize val B64 (xs.drop (i / 64 + 1)) = T
  generalize val B64 (xs.take (i / 64)) = U
  rw [e64, Nat.mul_assoc, Nat.add_mul_mod_self_left]
set_option maxHeartbeats 1000000 in
theorem nbit_calls (A : Option Addr) (n c t base i : Nat) (xs : List Nat) (w : World) (hn : xs.length = n) (hA : u64.Row t w base A xs) (hi : i < 64 * n) (hnb : n ≤ 1099511627776) :
    Calls Tryz.prog 79 #[.slice A n c, .int .u64 i] w fun e w' => e = .returned (.int .u64 ((val B64 xs / 2 ^ i % 2 : Nat) : Int)) ∧ w = w' := by
  rw [val_bit (u64bd hA) (by omega)]
  subst hn
  obtain ⟨j, hj⟩ : ∃ j, i / 64 = j := ⟨_, rfl⟩
  obtain ⟨r, hr⟩ : ∃ r, i % 64 = r := ⟨_, rfl⟩
  rw [hj, hr]
  obtain ⟨a, x, rfl, hcx, hxb, hxe⟩ := u64at (i := j) hA (by omega)
  rw [hxe.out]
  have h1 : (i : Int) / 64 = (j : Int) := by omega
  have h2 : (i : Int) % 64 = (r : Int) := by omega
  have h3 : (j : Int) < (xs.length : Int) := by omega
  have h4 : (0 : Int) ≤ (j : Int) := by omega
  have h5 : (r : Int) < 64 := by omega
  have hl := Lib.hid (u64_and_nat (x / 2 ^ r) 1 (Nat.lt_of_le_of_lt (Nat.div_le_self _ _) hxb) (by decide))
  have hs := shr_nat x r
  have hb : bits BinOp.and .u64 ((x : Int) / 2 ^ r) 1 = ((x / 2 ^ r % 2 : Nat) : Int) := by
    rw [hs]; exact bits_lsb (Nat.lt_of_le_of_lt (Nat.div_le_self _ _) hxb)
  have hw1 := u64w j (by omega)
  have hw2 := u64w xs.length (by omega)
  clear hs hl hxb hi hnb hj hr
  go_enter Tryz.func79, Tryz.ntmps79
  go_wp2
  go_ret
  exact ⟨rfl, rfl⟩
theorem nmsb_calls (A : Option Addr) (n c t base x : Nat) (xs : List Nat) (w : World) (hn : xs.length = n) (hA : u64.Row t w base A xs) (h0 : 0 < n) (hnb : n ≤ 1099511627776) (hx : xs.getD (n - 1) 0 = x) :
    Calls Tryz.prog 78 #[.slice A n c] w fun e w' => e = .returned (.int .u64 x) ∧ w = w' := by
  subst hn
  obtain ⟨a, y, rfl, hcx, hxb, hxe⟩ := u64at (i := xs.length - 1) hA (by omega)
  obtain rfl : y = x := hxe.out.symm.trans hx
  have h1 : (xs.length : Int) - 1 = ((xs.length - 1 : Nat) : Int) := by omega
  have h2 : ¬ (((xs.length - 1 : Nat) : Int) < 0) := by omega
  have h3 : (0 : Int) ≤ ((xs.length - 1 : Nat) : Int) := by omega
  have h4 : ((xs.length - 1 : Nat) : Int) < (xs.length : Int) := by omega
  clear hxb
  go_enter Tryz.func78, Tryz.ntmps78
  go_wp2
  go_ret
  exact ⟨rfl, rfl⟩
theorem take_zero {xs : List Nat} {k : Nat} (h : ∀ i, i < k → xs.getD i 0 = 0) : val B64 (xs.take k) = 0 := by
  induction k with
  | zero => rw [List.take_zero]; rfl
  | succ k ih =>
    by_cases hk : k < xs.length
    · rw [take_snoc' hk, val_append, ih (fun i hi => h i (by omega)), h k (by omega)]; simp [val]
    · have e : xs.take (k + 1) = xs.take k := by rw [List.take_of_length_le (by omega), List.take_of_length_le (by omega)]
      rw [e]; exact ih (fun i hi => h i (by omega))
theorem take_nz {xs : List Nat} {k i : Nat} (hi : i < k) (hl : i < xs.length) (hx : xs.getD i 0 ≠ 0) : val B64 (xs.take k) ≠ 0 := by
  intro h0
  have h1 : (xs.take k).getD i 0 = xs.getD i 0 := by rw [List.getD_eq_getElem?_getD, List.getD_eq_getElem?_getD, List.getElem?_take, if_pos hi]
  have h2 := val_split1 B64 (xs.take k) i (by rw [List.length_take]; omega)
  rw [h0, h1] at h2
  have h3 : 0 < B64 ^ i := Nat.pow_pos (by decide)
  have h4 : 0 < B64 ^ i * (xs.getD i 0 + B64 * val B64 ((xs.take k).drop (i + 1))) := Nat.mul_pos h3 (by omega)
  omega
theorem shl_top {x r s : Nat} (h : r + s = 64) : x * 2 ^ s % B64 = 2 ^ s * (x % 2 ^ r) := by
  have e : B64 = 2 ^ s * 2 ^ r := by rw [← Nat.pow_add, Nat.add_comm s, h]
  rw [e, Nat.mul_comm x, Nat.mul_mod_mul_left]
set_option maxHeartbeats 1000000 in
theorem nsticky_calls (A : Option Addr) (n c t base i : Nat) (xs : List Nat) (w : World) (hn : xs.length = n) (hA : u64.Row t w base A xs) (hi : i < 64 * n) (hnb : n ≤ 1099511627776) (hnc : n ≤ c) (hcb : c ≤ 1099511627776) :
    Calls Tryz.prog 76 #[.slice A n c, .int .u64 i] w fun e w' => e = .returned (.int .u64 ((restB (val B64 xs % 2 ^ i)).toNat : Nat)) ∧ w = w' := by
  subst hn
  have HXB := Lib.hid (u64bd hA)
  obtain ⟨j, hj⟩ : ∃ j, i / 64 = j := ⟨_, rfl⟩
  obtain ⟨r, hr⟩ : ∃ r, i % 64 = r := ⟨_, rfl⟩
  have HV : Hid (val B64 xs % 2 ^ i = val B64 (xs.take j) + 2 ^ (64 * j) * (xs.getD j 0 % 2 ^ r)) := by rw [Hid, val_low HXB.out (by omega), hj, hr]
  obtain ⟨a, x, rfl, hcx, hxb, hxe⟩ := u64at (i := j) hA (by omega)
  have h1 : (i : Int) / 64 = (j : Int) := by omega
  have h2 : (i : Int) % 64 = (r : Int) := by omega
  have h3 : (j : Int) < (xs.length : Int) := by omega
  have h4 : (0 : Int) ≤ (j : Int) := by omega
  have h5 : (r : Int) < 64 := by omega
  have hjc : (j : Int) ≤ (c : Int) := by omega
  have hjl : j < xs.length := by omega
  have hw1 := u64w j (by omega)
  have hw2 := u64w xs.length (by omega)
  have hr64 : r < 64 := by omega
  have hzero : ((xs.length : Int) == 0) = false := by simp; intro h; rw [h] at hjl; simp at hjl
  have HI := Lib.hid (And.intro hxb (And.intro hi hnb))
  clear hi hnb hj hr hxb
  go_enter Tryz.func76, Tryz.ntmps76
  go_wp2
  go_loop [7, 22] (fun _ iv => ∃ k : Nat, k ≤ j ∧ iv = .int .i64 k ∧ Hid (∀ q, q < k → xs.getD q 0 = 0)) (fun _ iv => j - (intOf iv).toNat)
  case atStart => exact ⟨0, by omega, rfl, fun q hq => by omega⟩
  case round =>
    obtain ⟨k, hk, rfl, hz⟩ := hrel
    by_cases hlt : k < j
    · obtain ⟨a', y, ha', hcy, hyb, hye⟩ := u64at (i := k) hA (by omega)
      cases ha'
      have hk1 : (k : Int) < (j : Int) := by omega
      have hk2 : (0 : Int) ≤ (k : Int) := by omega
      clear hyb
      by_cases hy : y = 0
      · subst hy
        go_wp2
        go_round
        case rel => exact ⟨k + 1, by omega, by go_num, fun q hq => by
          rcases Nat.lt_or_ge q k with h | h
          · exact hz.out q h
          · obtain rfl : q = k := by omega
            exact hye.out⟩
        case measure => simp [intOf]; omega
      · have hy1 : ((y : Int) != 0) = true := by simp; omega
        have HR : Hid (restB (val B64 xs % 2 ^ i) = true) := by
          rw [Hid, HV.out]
          have := take_nz (xs := xs) hlt (by omega) (by rw [hye.out]; exact hy)
          unfold restB; simp; exact .inl this
        go_wp2
        go_ret
        exact ⟨by rw [HR.out]; rfl, rfl⟩
    · obtain rfl : k = j := by omega
      have hz0 := take_zero hz.out
      by_cases hr0 : r = 0
      · subst hr0
        have HR : Hid (restB (val B64 xs % 2 ^ i) = false) := by
          rw [Hid, HV.out, hz0, Nat.pow_zero, Nat.mod_one, Nat.mul_zero]; rfl
        have hx64 : IntKind.u64.wrap ((x : Int) * 18446744073709551616) = 0 := by rw [IntKind.wrap_u64]; omega
        clear hlt
        go_wp2
        go_ret
        exact ⟨by rw [HR.out]; rfl, rfl⟩
      · obtain ⟨s, hs⟩ : ∃ s, r + s = 64 := ⟨64 - r, by omega⟩
        have hs1 : (64 : Int) - (r : Int) = (s : Int) := by omega
        have hs2 : (s : Int) < 64 := by omega
        have hws := u64w s (by omega)
        have hsh := shl_nat x s
        rw [shl_top hs] at hsh
        have hps : 0 < 2 ^ s := Nat.pow_pos (by decide)
        obtain ⟨m, hm⟩ : ∃ m, 2 ^ s * (x % 2 ^ r) = m := ⟨_, rfl⟩
        rw [hm] at hsh
        by_cases hm0 : m = 0
        · subst hm0
          have hx0 : x % 2 ^ r = 0 := by rcases Nat.mul_eq_zero.1 hm with h | h; omega; exact h
          have HR : Hid (restB (val B64 xs % 2 ^ i) = false) := by
            rw [Hid, HV.out, hz0, hxe.out, hx0, Nat.mul_zero]; rfl
          clear hlt hm hx0 hps
          go_wp2
          go_ret
          exact ⟨by rw [HR.out]; rfl, rfl⟩
        · have hx0 : x % 2 ^ r ≠ 0 := by intro h; rw [h, Nat.mul_zero] at hm; omega
          have HR : Hid (restB (val B64 xs % 2 ^ i) = true) := by
            rw [Hid, HV.out, hz0, hxe.out]
            have : 0 < 2 ^ (64 * k) * (x % 2 ^ r) := Nat.mul_pos (Nat.pow_pos (by decide)) (by omega)
            unfold restB; simp; omega
          have hm1 : ((m : Int) != 0) = true := by simp; omega
          clear hlt hm hx0 hps hm0
          go_wp2
          go_ret
          exact ⟨by rw [HR.out]; rfl, rfl⟩
end Go.Proofs.YtikdhkmcdmnadaaGreatFmt

namespace Go.Proofs.YtikdhkmcdmnadaaGreatFmt
open Go.RowKit

/-! ### big.Float: its cells, its value -/
abbrev fC (prec : Int) (acc : Int) (form : Int) (neg : Bool) (v : Value) (ex : Int) : List Value := [.int .u32 prec, .int .u8 0, .int .i8 acc, .int .u8 form, .bool neg, v, .int .i32 ex]
theorem sev {w : World} {b t : Nat} {x0 x1 x2 x3 x4 x5 x6 : Value} (h : Blk w b t [x0, x1, x2, x3, x4, x5, x6]) :
    w.cell? ⟨b, 0, none⟩ = some x0 ∧ w.cell? ⟨b, 1, none⟩ = some x1 ∧ w.cell? ⟨b, 2, none⟩ = some x2 ∧ w.cell? ⟨b, 3, none⟩ = some x3 ∧ w.cell? ⟨b, 4, none⟩ = some x4 ∧ w.cell? ⟨b, 5, none⟩ = some x5 ∧ w.cell? ⟨b, 6, none⟩ = some x6 :=
  ⟨h.cell 0, h.cell 1, h.cell 2, h.cell 3, h.cell 4, h.cell 5, h.cell 6⟩
theorem frz {w : World} {b t : Nat} {cs : List Value} (h : Blk w b t cs) :
    w.frozen? ⟨b, 0, none⟩ = false ∧ w.frozen? ⟨b, 1, none⟩ = false ∧ w.frozen? ⟨b, 2, none⟩ = false ∧ w.frozen? ⟨b, 3, none⟩ = false ∧ w.frozen? ⟨b, 4, none⟩ = false ∧ w.frozen? ⟨b, 5, none⟩ = false ∧ w.frozen? ⟨b, 6, none⟩ = false :=
  ⟨h.frozen 0, h.frozen 1, h.frozen 2, h.frozen 3, h.frozen 4, h.frozen 5, h.frozen 6⟩
theorem OwnN.setC {w : World} {B m : Nat} {v : Value} (h : OwnN w B m v) {p : Addr} (hp : p.block < B) (u : Value) : OwnN (w.setCell p u) B m v := by
  rcases h with h | ⟨g, Z, n, h1, h2, h3, h4⟩
  · exact .inl h
  · exact .inr ⟨g, Z, n, h1, h2, h3.far (by omega) u, h4⟩
/-- its mantissa: X parts of 2^-K, of n words, the uppermost bit set -/
def FMan (w : World) (K N : Nat) (neg : Bool) (v : Value) (ex : Int) (X : Int) : Prop :=
  ∃ (B m n : Nat), OwnN w B m v ∧ bl m = 64 * n ∧ 0 < n ∧ n ≤ N ∧ 0 ≤ ex - ((64 * n : Nat) : Int) + K ∧ X = sg neg (m * 2 ^ (ex - ((64 * n : Nat) : Int) + K).toNat) ∧ (-20000 ≤ ex ∧ ex ≤ 20000)
def FVal (w : World) (K N : Nat) (b : Nat) (X : Int) : Prop :=
  ∃ (acc : Int) (form : Nat) (neg : Bool) (v : Value) (ex : Int), Blk w b 82 (fC 2300 acc form neg v ex) ∧ ((form = 0 ∧ X = 0) ∨ (form = 1 ∧ FMan w K N neg v ex X))
theorem FVal.keep {w w' : World} {K N b : Nat} {X : Int} (h : FVal w K N b X) (hb : Below w.heap.size w w') : FVal w' K N b X := by
  obtain ⟨acc, form, neg, v, ex, h1, h2⟩ := h
  refine ⟨acc, form, neg, v, ex, h1.below' hb, h2.imp id fun ⟨h3, B, m, n, h4, h5⟩ => ⟨h3, B, m, n, h4.keep hb, h5⟩⟩
theorem FVal.lt {w : World} {K N b : Nat} {X : Int} (h : FVal w K N b X) : b < w.heap.size := by
  obtain ⟨acc, form, neg, v, ex, h1, _⟩ := h
  exact h1.lt
theorem FVal.more {w : World} {K N N' b : Nat} {X : Int} (h : FVal w K N b X) (hN : N ≤ N') : FVal w K N' b X := by
  obtain ⟨acc, form, neg, v, ex, h1, h2⟩ := h
  refine ⟨acc, form, neg, v, ex, h1, h2.imp id fun ⟨h3, B, m, n, h4, h5, h6, h7, h8⟩ => ⟨h3, B, m, n, h4, h5, h6, Nat.le_trans h7 hN, h8⟩⟩
set_option maxHeartbeats 1000000 in
theorem setprec_calls (b : Nat) (w : World) (hb : Blk w b 82 (fC 0 0 0 false (.slice none 0 0) 0)) :
    Calls Tryz.prog 46 #[.pointer (some ⟨b, 0, none⟩), .int .u64 2300] w fun e w' => e = .returned (.pointer (some ⟨b, 0, none⟩)) ∧ Blk w' b 82 (fC 2300 0 0 false (.slice none 0 0) 0) ∧ Below b w w' := by
  obtain ⟨c0, c1, c2, c3, c4, c5, c6⟩ := sev hb
  obtain ⟨f0, f1, f2, f3, f4, f5, f6⟩ := frz hb
  go_enter Tryz.func46, Tryz.ntmps46
  go_wp2
  go_ret
  refine ⟨rfl, (hb.set 2 (.int .i8 0)).set 0 (.int .u32 2300), ?_⟩
  exact ((Below.refl b w).setCell (p := ⟨b, 2, none⟩) (Nat.le_refl _) _).setCell (p := ⟨b, 0, none⟩) (Nat.le_refl _) _
end Go.Proofs.YtikdhkmcdmnadaaGreatFmt

namespace Go.Proofs.YtikdhkmcdmnadaaGreatFmt
open Go.RowKit
attribute [local go_sem ↓] Go.wp_at_zero Go.wp_at_succ

/-! ### SetFloat64, exact -/
def m1W (r : Nat) : Nat := 9223372036854775808 + nrmW r % 4503599627370496 * 2048
theorem m1_spec {K r : Nat} (hK : 1140 ≤ K) (h0 : 0 < r) (hr : r < INFR) (neg : Bool) :
    bl (m1W r) = 64 ∧ m1W r < 18446744073709551616 ∧ 0 ≤ frE r - ((64 * 1 : Nat) : Int) + K ∧ sg neg (rv r) * ((2 ^ (K - 1074) : Nat) : Int) = sg neg (m1W r * 2 ^ (frE r - ((64 * 1 : Nat) : Int) + K).toNat) ∧ (-1100 ≤ frE r ∧ frE r ≤ 1100) := by
  obtain ⟨n1, n2⟩ := nrmW_spec h0 hr
  simp only [INFR] at n2
  have hf : nrmW r % 4503599627370496 < 4503599627370496 := Nat.mod_lt _ (by decide)
  have hb : bl (m1W r) = 64 := bl_eq (L := 63) (by unfold m1W; omega) (by unfold m1W; omega)
  have hnb : -52 ≤ nrmE r ∧ nrmE r ≤ 0 := by unfold nrmE; split <;> omega
  have hE2 : nrmW r / 4503599627370496 < 2048 := by omega
  have hE3 : 1 ≤ nrmW r / 4503599627370496 := by omega
  have hfe : frE r = nrmE r + ((nrmW r / 4503599627370496 : Nat) : Int) - 1022 := rfl
  have g1 : 0 ≤ frE r - ((64 * 1 : Nat) : Int) + K := by omega
  have g2 : -1100 ≤ frE r ∧ frE r ≤ 1100 := by omega
  have hE : (nrmE r = -52 ∧ rv (nrmW r) = rv r * 2 ^ 52) ∨ (nrmE r = 0 ∧ rv (nrmW r) = rv r) := by
    unfold nrmE nrmW
    by_cases h : r < 4503599627370496
    · rw [if_pos h, if_pos h]; exact .inl ⟨rfl, (nrm_spec h0 h).1⟩
    · rw [if_neg h, if_neg h]; exact .inr ⟨rfl, rfl⟩
  have hsp : nrmW r = (nrmW r / 4503599627370496 - 1) * 4503599627370496 + (4503599627370496 + nrmW r % 4503599627370496) := by omega
  have hrv : rv (nrmW r) = (4503599627370496 + nrmW r % 4503599627370496) * 2 ^ (nrmW r / 4503599627370496 - 1) := by
    have := rv_at (k := nrmW r / 4503599627370496 - 1) (q := 4503599627370496 + nrmW r % 4503599627370496) (.inl (by omega)) (by omega)
    rw [← hsp] at this
    exact this
  have hm : m1W r = (4503599627370496 + nrmW r % 4503599627370496) * 2 ^ 11 := by unfold m1W; omega
  refine ⟨hb, by unfold m1W; omega, g1, ?_, g2⟩
  · rw [sg_pow]
    refine congrArg (sg neg) ?_
    rw [hm, hfe]
    clear hb hsp hm n1 n2 hf g1 g2 hfe
    generalize 4503599627370496 + nrmW r % 4503599627370496 = q at *
    generalize nrmW r / 4503599627370496 = E at *
    generalize nrmE r = ne at *
    generalize rv (nrmW r) = R at *
    generalize rv r = R0 at *
    rcases hE with ⟨h, h2⟩ | ⟨h, h2⟩
    · rw [hrv] at h2
      have x1 : 52 + (K - 1074 - 52) = K - 1074 := by omega
      have e1 : 2 ^ (K - 1074) = 2 ^ 52 * 2 ^ (K - 1074 - 52) := by rw [← Nat.pow_add, x1]
      have x2 : 11 + (ne + (E : Int) - 1022 - ((64 * 1 : Nat) : Int) + K).toNat = E - 1 + (K - 1074 - 52) := by omega
      rw [e1, ← Nat.mul_assoc, ← h2, Nat.mul_assoc, Nat.mul_assoc, ← Nat.pow_add, ← Nat.pow_add, x2]
    · rw [hrv] at h2
      have x2 : 11 + (ne + (E : Int) - 1022 - ((64 * 1 : Nat) : Int) + K).toNat = E - 1 + (K - 1074) := by omega
      rw [← h2, Nat.mul_assoc, Nat.mul_assoc, ← Nat.pow_add, ← Nat.pow_add, x2]
theorem fr_shl (neg : Bool) (r : Nat) : IntKind.u64.wrap ((frB neg r : Int) * 2048) = ((nrmW r % 4503599627370496 * 2048 : Nat) : Int) := by
  have hf : nrmW r % 4503599627370496 < 4503599627370496 := Nat.mod_lt _ (by decide)
  rw [IntKind.wrap_u64]
  unfold frB sgW
  cases neg <;> simp only [Bool.false_eq_true, if_false, if_true] <;> omega
theorem fr_or (r : Nat) : bits .or .u64 9223372036854775808 ((nrmW r % 4503599627370496 * 2048 : Nat) : Int) = ((m1W r : Nat) : Int) := by
  have hf : nrmW r % 4503599627370496 < 4503599627370496 := Nat.mod_lt _ (by decide)
  rw [show (9223372036854775808 : Int) = ((9223372036854775808 : Nat) : Int) from rfl, u64_or_nat _ _ (by decide) (by omega)]
  congr 1
  rw [Nat.or_comm, or_add_low (r := 63) (by omega) (by decide)]
  unfold m1W; omega
set_option maxHeartbeats 2000000 in
set_option maxRecDepth 100000 in
theorem setfloat_zero (b : Nat) (neg : Bool) (K : Nat) (w : World) (hb : Blk w b 82 (fC 2300 0 0 false (.slice none 0 0) 0)) :
    Calls Tryz.prog 67 #[.pointer (some ⟨b, 0, none⟩), .float .f64 (wordR neg 0)] w fun e w' => e = .returned (.pointer (some ⟨b, 0, none⟩)) ∧ FVal w' K 1 b 0 ∧ Below b w w' := by
  obtain ⟨c0, c1, c2, c3, c4, c5, c6⟩ := sev hb
  obtain ⟨f0, f1, f2, f3, f4, f5, f6⟩ := frz hb
  have HA := Lib.hid (fun W => isnan_word neg 0 (by decide) W)
  have HS := Lib.hid (fun W => signbit_calls (wordR neg 0) (by cases neg <;> decide) W)
  rw [word_neg (by decide)] at HS
  have ho : (FloatKind.f64.format.order (wordR neg 0) 0 == some .eq) = true := by
    show (Ieee.double.order (wordR neg 0) (wordR false 0) == some .eq) = true
    rw [order_word (by decide) (by decide)]
    cases neg <;> rfl
  obtain ⟨u, hu⟩ : ∃ u, wordR neg 0 = u := ⟨_, rfl⟩
  rw [hu] at HA HS ho ⊢
  clear hu
  go_enter Tryz.func67, Tryz.ntmps67
  go_wp2_with fail
  refine (HA.out _).mono ?_
  rintro e w' ⟨rfl, rfl⟩
  go_wp2_with fail
  refine (HS.out _).mono ?_
  rintro e w' ⟨rfl, rfl⟩
  go_wp2
  go_ret
  refine ⟨rfl, ⟨0, 0, neg, .slice none 0 0, 0, ((hb.set 2 (.int .i8 0)).set 4 (.bool neg)).set 3 (.int .u8 0), .inl ⟨rfl, rfl⟩⟩, ?_⟩
  exact (((Below.refl b w).setCell (p := ⟨b, 2, none⟩) (Nat.le_refl _) _).setCell (p := ⟨b, 4, none⟩) (Nat.le_refl _) _).setCell (p := ⟨b, 3, none⟩) (Nat.le_refl _) _
set_option maxHeartbeats 4000000 in
set_option maxRecDepth 100000 in
theorem setfloat_pos (b : Nat) (neg : Bool) (r K : Nat) (hK : 1140 ≤ K) (h0 : 0 < r) (hr : r < INFR) (w : World) (hb : Blk w b 82 (fC 2300 0 0 false (.slice none 0 0) 0)) :
    Calls Tryz.prog 67 #[.pointer (some ⟨b, 0, none⟩), .float .f64 (wordR neg r)] w fun e w' => e = .returned (.pointer (some ⟨b, 0, none⟩)) ∧ FVal w' K 1 b (sg neg (rv r) * ((2 ^ (K - 1074) : Nat) : Int)) ∧ Below b w w' := by
  have hi : INFR < 9223372036854775808 := by decide
  obtain ⟨s1, s2, s3, s4, s5⟩ := m1_spec hK h0 hr neg
  obtain ⟨c0, c1, c2, c3, c4, c5, c6⟩ := sev hb
  obtain ⟨f0, f1, f2, f3, f4, f5, f6⟩ := frz hb
  have HA := Lib.hid (fun W => isnan_word neg r (Nat.le_of_lt hr) W)
  have HI := Lib.hid (fun W => isinf_word neg r (Nat.le_of_lt hr) W)
  rw [decide_eq_false (by omega : ¬ r = INFR)] at HI
  have HS := Lib.hid (fun W => signbit_calls (wordR neg r) (word_lt (by omega)) W)
  rw [word_neg (by omega)] at HS
  have HX := Lib.hid (fun W => frexp_calls neg r h0 hr W)
  have HU := Lib.hid (fun W => nsetUint64_calls (m1W r) s2 W)
  have ho : (FloatKind.f64.format.order (wordR neg r) 0 == some .eq) = false := by
    show (Ieee.double.order (wordR neg r) (wordR false 0) == some .eq) = false
    rw [order_word (Nat.le_of_lt hr) (by decide)]
    cases neg
    · rw [Int.compare_eq_gt.2 (by simp only [sval, Bool.false_eq_true, if_false]; omega)]; rfl
    · rw [Int.compare_eq_lt.2 (by simp only [sval, Bool.false_eq_true, if_false, if_true]; omega)]; rfl
  have b1 := fr_shl neg r
  have b2 := fr_or r
  have HM : Hid (bl (m1W r) = 64 ∧ 0 ≤ frE r - ((64 * 1 : Nat) : Int) + K ∧ sg neg (rv r) * ((2 ^ (K - 1074) : Nat) : Int) = sg neg (m1W r * 2 ^ (frE r - ((64 * 1 : Nat) : Int) + K).toNat)) := ⟨s1, s3, s4⟩
  obtain ⟨X, hX⟩ : ∃ X, sg neg (rv r) * ((2 ^ (K - 1074) : Nat) : Int) = X := ⟨_, rfl⟩
  obtain ⟨u, hu⟩ : ∃ u, wordR neg r = u := ⟨_, rfl⟩
  obtain ⟨m1, hm1⟩ : ∃ m, m1W r = m := ⟨_, rfl⟩
  obtain ⟨ex, hex⟩ : ∃ x, frE r = x := ⟨_, rfl⟩
  obtain ⟨fb, hfb⟩ : ∃ x, frB neg r = x := ⟨_, rfl⟩
  obtain ⟨q, hq⟩ : ∃ q, nrmW r % 4503599627370496 * 2048 = q := ⟨_, rfl⟩
  rw [hX, hm1, hex] at HM
  rw [hm1] at HU b2
  rw [hq] at b1 b2
  rw [hfb] at b1
  rw [hfb, hex] at HX
  rw [hu] at HA HI HS HX ho ⊢
  rw [hX]
  rw [hex] at s5
  have hwi : IntKind.i32.wrap ex = ex := by simp [IntKind.wrap, IntKind.bits, IntKind.signed]; omega
  have HB := Lib.hid hb
  have HE := Lib.hid s5
  clear hX hu hm1 hex hfb hq s1 s2 s3 s4 h0 hr hi hb s5 hK
  go_enter Tryz.func67, Tryz.ntmps67
  go_wp2_with fail
  refine (HA.out _).mono ?_
  rintro e w' ⟨rfl, rfl⟩
  go_wp2_with fail
  refine (HS.out _).mono ?_
  rintro e w' ⟨rfl, rfl⟩
  go_wp2_with fail
  refine (HI.out _).mono ?_
  rintro e w' ⟨rfl, rfl⟩
  go_wp2_with fail
  refine (HX.out _).mono ?_
  rintro e w' ⟨rfl, rfl⟩
  go_upto_region 15 with fail
  have hB2 : Blk (((w.setCell ⟨b, 2, none⟩ (.int .i8 0)).setCell ⟨b, 4, none⟩ (.bool neg)).setCell ⟨b, 3, none⟩ (.int .u8 1)) b 82 (fC 2300 0 1 neg (.slice none 0 0) 0) := ((HB.out.set 2 (.int .i8 0)).set 4 (.bool neg)).set 3 (.int .u8 1)
  have hW2 := (((Below.refl b w).setCell (p := ⟨b, 2, none⟩) (Nat.le_refl _) (.int .i8 0)).setCell (p := ⟨b, 4, none⟩) (Nat.le_refl _) (.bool neg)).setCell (p := ⟨b, 3, none⟩) (Nat.le_refl _) (.int .u8 1)
  obtain ⟨w3, hw3⟩ : ∃ W, ((w.setCell ⟨b, 2, none⟩ (.int .i8 0)).setCell ⟨b, 4, none⟩ (.bool neg)).setCell ⟨b, 3, none⟩ (.int .u8 1) = W := ⟨_, rfl⟩
  rw [hw3] at hB2 hW2 ⊢
  have HB3 := Lib.hid hB2
  have HW3 := Lib.hid hW2
  clear c0 c1 c2 c3 c4 c5 c6 f0 f1 f2 f3 f4 f5 f6 hw3 hB2 hW2
  obtain ⟨c0, c1, c2, c3, c4, c5, c6⟩ := sev HB3.out
  go_region_with (go_at_call 90; refine (HU.out _).mono ?_; rintro e w4 ⟨v, rfl, hO, hW⟩; obtain ⟨A, n, c, rfl, _⟩ := hO.shape; have hW4 := (Below.refl w3.heap.size w3).drew.trans hW; have H4 : Hid (OwnN w4 w3.heap.size m1 (.slice A n c) ∧ Below w3.heap.size w3 w4) := ⟨hO, hW4⟩; obtain ⟨d0, d1, d2, d3, d4, d5, d6⟩ := sev (HB3.out.below' hW4); obtain ⟨f0, f1, f2, f3, f4, f5, f6⟩ := frz (HB3.out.below' hW4); clear hO hW hW4)
  all_goals (
    go_wp2
    go_ret
    obtain ⟨hO, hW4⟩ := H4.out
    have hB4 := HB3.out.below' hW4
    have hO' : OwnN w4 w3.heap.size m1 (.slice A n c) := hO
    refine ⟨rfl, ⟨0, 1, neg, .slice A n c, ex, (hB4.set 5 (.slice A n c)).set 6 (.int .i32 ex), .inr ⟨rfl, w3.heap.size, m1, 1, ?_, HM.out.1, by omega, by omega, HM.out.2.1, HM.out.2.2, ⟨by have := HE.out; omega, by have := HE.out; omega⟩⟩⟩, ?_⟩
    · exact (OwnN.setC (OwnN.setC hO' (p := ⟨b, 5, none⟩) HB3.out.lt _) (p := ⟨b, 6, none⟩) HB3.out.lt _)
    · have h1 : Below b w w4 := HW3.out.trans (hW4.mono (Nat.le_of_lt HB3.out.lt))
      exact (h1.setCell (p := ⟨b, 5, none⟩) (Nat.le_refl _) _).setCell (p := ⟨b, 6, none⟩) (Nat.le_refl _) _)
end Go.Proofs.YtikdhkmcdmnadaaGreatFmt

namespace Go.Proofs.YtikdhkmcdmnadaaGreatFmt
open Go.RowKit

theorem float_new (w : World) : Blk (w.alloc (.cells #[.int .u32 0, .int .u8 0, .int .i8 0, .int .u8 0, .bool false, .slice none 0 0, .int .i32 0] 82)) w.heap.size 82 (fC 0 0 0 false (.slice none 0 0) 0) := Blk.new _ _ _
theorem setfloat_calls (b : Nat) (neg : Bool) (r K : Nat) (hK : 1140 ≤ K) (hr : r < INFR) (w : World) (hb : Blk w b 82 (fC 2300 0 0 false (.slice none 0 0) 0)) :
    Calls Tryz.prog 67 #[.pointer (some ⟨b, 0, none⟩), .float .f64 (wordR neg r)] w fun e w' => e = .returned (.pointer (some ⟨b, 0, none⟩)) ∧ FVal w' K 1 b (sg neg (rv r) * ((2 ^ (K - 1074) : Nat) : Int)) ∧ Below b w w' := by
  rcases Nat.eq_zero_or_pos r with h | h
  · subst h
    rw [rv_zero, sg_zero, Int.zero_mul]
    exact setfloat_zero b neg K w hb
  · exact setfloat_pos b neg r K hK h hr w hb
set_option maxHeartbeats 1000000 in
theorem exact_word (neg : Bool) (r K : Nat) (hK : 1140 ≤ K) (hr : r < INFR) (w : World) :
    Calls Tryz.prog 48 #[.float .f64 (wordR neg r)] w fun e w' => e = .returned (.pointer (some ⟨w.heap.size, 0, none⟩)) ∧ FVal w' K 1 w.heap.size (sg neg (rv r) * ((2 ^ (K - 1074) : Nat) : Int)) ∧ Below w.heap.size w w' := by
  have HN := Lib.hid (float_new w)
  have HW := Lib.hid (below_new (Below.refl w.heap.size w) (.cells #[.int .u32 0, .int .u8 0, .int .i8 0, .int .u8 0, .bool false, .slice none 0 0, .int .i32 0] 82))
  have HP := Lib.hid (fun b W hb => setprec_calls b W hb)
  have HS := Lib.hid (fun b W hb => setfloat_calls b neg r K hK hr W hb)
  obtain ⟨u, hu⟩ : ∃ u, wordR neg r = u := ⟨_, rfl⟩
  rw [hu] at HS ⊢
  obtain ⟨X, hX⟩ : ∃ X, sg neg (rv r) * ((2 ^ (K - 1074) : Nat) : Int) = X := ⟨_, rfl⟩
  rw [hX] at HS ⊢
  clear hu hX hK hr
  go_enter Tryz.func48, Tryz.ntmps48
  go_wp2_with fail
  refine (HP.out _ _ HN.out).mono ?_
  rintro e w1 ⟨rfl, hb1, hW1⟩
  have H1 := Lib.hid (And.intro hb1 (HW.out.trans hW1))
  clear hb1 hW1
  go_wp2_with fail
  refine (HS.out _ _ H1.out.1).mono ?_
  rintro e w2 ⟨rfl, hb2, hW2⟩
  have H2 := Lib.hid (And.intro hb2 (H1.out.2.trans hW2))
  clear hb2 hW2
  go_wp2
  go_ret
  exact ⟨rfl, H2.out.1, H2.out.2⟩
theorem exact_calls (u K : Nat) (hu : u < 18446744073709551616) (hf : fin u = true) (hK : 1140 ≤ K) (w : World) :
    Calls Tryz.prog 48 #[.float .f64 u] w fun e w' => e = .returned (.pointer (some ⟨w.heap.size, 0, none⟩)) ∧ FVal w' K 1 w.heap.size (fv u * ((2 ^ (K - 1074) : Nat) : Int)) ∧ Below w.heap.size w w' := by
  obtain ⟨h1, h2⟩ := word_of hu hf
  have h3 := fv_word (neg := fneg u) h2
  rw [← h1] at h3
  rw [h3]
  have := exact_word (fneg u) (uabs u) K hK h2 w
  rw [← h1] at this
  exact this
end Go.Proofs.YtikdhkmcdmnadaaGreatFmt
