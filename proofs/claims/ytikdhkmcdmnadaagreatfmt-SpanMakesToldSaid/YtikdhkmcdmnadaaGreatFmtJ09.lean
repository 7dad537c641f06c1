/- Walks and plain laws of this seat's functions, part 9: N1 N2 N3. -/
import Derived.Test.YtikdhkmcdmnadaaGreatFmtJ01
set_option linter.unusedVariables false
set_option linter.unusedSimpArgs false
namespace Go.Proofs.YtikdhkmcdmnadaaGreatFmt
open Go.RowKit

/-! ### math/big: whole numbers as words of 64 bits -/
abbrev B64 : Nat := 18446744073709551616
theorem run_add64 (x y c : Nat) (hc : c = 0 ∨ c = 1) (w : World) : (callFunc 118 #[.int .u64 x, .int .u64 y, .int .u64 c]).run Tryz.prog w = .ok (.value (.tuple #[.int .u64 ((x + y + c) % 2 ^ 64 : Nat), .int .u64 ((x + y + c) / 2 ^ 64 : Nat)])) w := by
  rcases hc with rfl | rfl <;> kernel_rfl
theorem run_sub64 (x y c : Nat) (hc : c = 0 ∨ c = 1) (w : World) : (callFunc 210 #[.int .u64 x, .int .u64 y, .int .u64 c]).run Tryz.prog w = .ok (.value (.tuple #[.int .u64 ((x + 2 ^ 64 - y - c) % 2 ^ 64 : Nat), .int .u64 (if x < y + c then 1 else 0 : Nat)])) w := by
  have h : (callFunc 210 #[.int .u64 x, .int .u64 y, .int .u64 c]).run Tryz.prog w = .ok (.value (.tuple #[.int .u64 ((x + 2 ^ 64 - y - c) % 2 ^ 64 : Nat), .int .u64 (Int.ofNat (if x < y + c then 1 else 0))])) w := by
    rcases hc with rfl | rfl <;> kernel_rfl
  exact h
@[go_sem] theorem run_rshVU (a b c : Value) (w : World) : (callFunc 81 #[a, b, c]).run Tryz.prog w = .ok (.enter 60 #[a, b, c]) w := by kernel_rfl
@[go_sem] theorem run_lshVU (a b c : Value) (w : World) : (callFunc 113 #[a, b, c]).run Tryz.prog w = .ok (.enter 59 #[a, b, c]) w := by kernel_rfl
@[go_sem] theorem run_addVV (a b c : Value) (w : World) : (callFunc 124 #[a, b, c]).run Tryz.prog w = .ok (.enter 57 #[a, b, c]) w := by kernel_rfl
@[go_sem] theorem run_subVV (a b c : Value) (w : World) : (callFunc 183 #[a, b, c]).run Tryz.prog w = .ok (.enter 58 #[a, b, c]) w := by kernel_rfl

/-! rows of words -/
theorem u64at {t : Nat} {w : World} {base : Nat} {A : Option Addr} {xs : List Nat} (h : u64.Row t w base A xs) {i : Nat} (hi : i < xs.length) :
    ∃ (a : Addr) (x : Nat), A = some a ∧ w.cell? (a.add i) = some (.int .u64 x) ∧ x < 18446744073709551616 ∧ Hid (xs.getD i 0 = x) := by
  obtain ⟨a, x, h1, h2, h3, h4⟩ := Rd.Row.get h hi
  exact ⟨a, x, h1, h2, h3, by have := h4.out; simp [Hid, this]⟩
theorem u64bd {t : Nat} {w : World} {base : Nat} {A : Option Addr} {xs : List Nat} (h : u64.Row t w base A xs) : ∀ d ∈ xs, d < B64 := by
  intro d hd
  obtain ⟨i, hi, rfl⟩ := List.getElem_of_mem hd
  obtain ⟨_, cs, _, _, _, hr, _⟩ := h i _ (List.getElem?_eq_getElem hi)
  exact hr.2
theorem Blk.at64 {w : World} {b t : Nat} {zs : List Nat} (h : Blk w b t (i64s zs)) {i : Nat} (hi : i < zs.length) (hz : ∀ d ∈ zs, d < B64) :
    ∃ z, w.cell? ⟨b, i, none⟩ = some (.int .u64 (z : Nat)) ∧ w.frozen? ⟨b, i, none⟩ = false ∧ z < 18446744073709551616 ∧ Hid (zs.getD i 0 = z) := by
  refine ⟨zs.getD i 0, ?_, h.frozen i, getD_mem_lt hz hi, rfl⟩
  rw [h.cell]; simp [i64s, hi]
theorem Blk.set64 {w : World} {b t : Nat} {zs : List Nat} (h : Blk w b t (i64s zs)) (i x : Nat) (v : Int) (hv : v = x) :
    Blk (w.setCell ⟨b, i, none⟩ (.int .u64 v)) b t (i64s (zs.set i x)) := by
  subst hv
  have := h.set i (.int .u64 (x : Nat))
  simpa [i64s, List.map_set] using this
theorem made64 (n : Nat) : (madeCells #[Value.int .u64 0] n).toList = i64s (List.replicate n 0) := by
  simp [i64s, madeCells, Nat.mod_one, List.map_const']
theorem u64row {t b : Nat} {w : World} {base : Nat} {zs : List Nat} (h : Blk w b t (i64s zs)) (hz : ∀ d ∈ zs, d < B64) (n : Nat) : u64.Row t w base (some ⟨b, 0, none⟩) (zs.take n) :=
  h.row (by simp [i64s, List.map_take]) (fun x hx => hz x (List.mem_of_mem_take hx))
theorem u64all {t b : Nat} {w : World} {base : Nat} {zs : List Nat} (h : Blk w b t (i64s zs)) (hz : ∀ d ∈ zs, d < B64) : u64.Row t w base (some ⟨b, 0, none⟩) zs := by
  have := u64row (base := base) h hz zs.length
  rwa [List.take_length] at this
theorem Addr.add_add (a : Addr) (m n : Nat) : (a.add m).add n = a.add (m + n) := by
  unfold Addr.add
  by_cases hm : m = 0
  · subst hm; simp
  · by_cases hn : n = 0
    · subst hn; simp [hm]
    · simp [hm, hn, Nat.add_assoc]
/-- a part of a row -/
theorem u64drop {t : Nat} {w : World} {base : Nat} {a : Addr} {xs : List Nat} (h : u64.Row t w base (some a) xs) (k : Nat) : u64.Row t w base (some (a.add k)) (xs.drop k) := by
  intro i x hi
  rw [List.getElem?_drop] at hi
  obtain ⟨a', cs, ha, hok, hlt, hr, hc⟩ := h _ x hi
  cases ha
  refine ⟨_, cs, rfl, by rw [Addr.add_block]; exact hok, by rw [Addr.add_block]; exact hlt, hr, fun j u hj => ?_⟩
  have := hc j u hj
  simp only [u64, Rd.scalar, Nat.mul_one] at this ⊢
  rw [Addr.add_add, ← Nat.add_assoc]; exact this
theorem u64take {t : Nat} {w : World} {base : Nat} {A : Option Addr} {xs : List Nat} (h : u64.Row t w base A xs) (k : Nat) : u64.Row t w base A (xs.take k) := by
  intro i x hi
  rw [List.getElem?_take] at hi
  split at hi
  · exact h i x hi
  · simp at hi
/-- a whole number as a trimmed row of words -/
def wRd : Rd Nat where
  sz := 1
  E := [109]
  R w base m cs := ∃ (xs : List Nat) (A : Option Addr) (c : Nat), cs = [.slice A xs.length c] ∧ xs.length ≤ c ∧ u64.Row 109 w base A xs ∧ Trimmed xs ∧ val B64 xs = m
  len h := by obtain ⟨_, _, _, rfl, _⟩ := h; rfl
  one h u hu := by obtain ⟨_, _, _, rfl, _⟩ := h; simp at hu; subst hu; rfl
  keep h hk := by obtain ⟨xs, A, c, rfl, h1, h2, h3⟩ := h; exact ⟨xs, A, c, rfl, h1, h2.keep hk (by simp) (fun q hq => by simp [u64, Rd.scalar] at hq), h3⟩

set_option maxHeartbeats 400000 in
theorem nmake_one (w : World) : Calls Tryz.prog 97 #[.slice none 0 0, .int .i64 1] w fun e w' => e = .returned (.slice (some ⟨w.heap.size, 0, none⟩) 1 1) ∧ w' = w.alloc (.cells (madeCells #[.int .u64 0] 1) 109) := by
  have hm := fun W => run_make_row' (P := Tryz.prog) 80 109 (.int .u64 0) 8 (by kernel_rfl) (by kernel_rfl) rfl .i64 .i64 1 (by omega) (by omega) W
  simp only [Int.natCast_one] at hm
  go_enter Tryz.func97, Tryz.ntmps97
  go_wp2
  go_ret
  exact ⟨rfl, rfl⟩
set_option maxHeartbeats 400000 in
theorem nmake_fit (A : Option Addr) (l c n : Nat) (w : World) (hn : n ≤ c) (hc : c ≤ 1099511627776) : Calls Tryz.prog 97 #[.slice A l c, .int .i64 n] w fun e w' => e = .returned (.slice A n c) ∧ w = w' := by
  go_enter Tryz.func97, Tryz.ntmps97
  go_wp2

  go_ret
  exact ⟨rfl, rfl⟩
end Go.Proofs.YtikdhkmcdmnadaaGreatFmt

namespace Go.Proofs.YtikdhkmcdmnadaaGreatFmt
open Go.RowKit

theorem cell_far {w : World} {p q : Addr} {u v : Value} (h : ¬ q.block = p.block) (hc : w.cell? q = some v) : (w.setCell p u).cell? q = some v :=
  (World.cell?_of_block (Below.heap_setCell w p u q.block h)).trans hc
theorem cell_far_drew {w : World} {p q : Addr} {u v : Value} (h : ¬ q.block = p.block) (hc : w.cell? q = some v) : (w.setCell p u).drew.cell? q = some v := cell_far h hc
theorem set_left {α : Type} {ys tl : List α} {k : Nat} {v : α} (h : k < ys.length) : (ys ++ tl).set k v = ys.set k v ++ tl := by
  rw [List.set_append, if_pos h]
theorem and63 {s : Nat} (h : s < 64) : bits .and .u64 (s : Int) 63 = (s : Int) := by
  rw [show (63 : Int) = ((2 ^ 6 - 1 : Nat) : Int) from by decide, u64_and_nat _ _ (by omega) (by decide), Nat.and_two_pow_sub_one_eq_mod, Nat.mod_eq_of_lt (by omega)]
theorem two_pow_lt {r : Nat} (h : r < 64) : 2 ^ r ≤ 9223372036854775808 := by
  have := Nat.pow_le_pow_right (show 0 < 2 by decide) (show r ≤ 63 by omega)
  omega
theorem B64_split {s r : Nat} (h : s + r = 64) : B64 = 2 ^ s * 2 ^ r := by rw [← Nat.pow_add, h]
/-- x >> s | y << r -/
theorem or_shr {x y s r : Nat} (hx : x < 18446744073709551616) (h : s + r = 64) :
    bits .or .u64 ((x : Int) / 2 ^ s) (IntKind.u64.wrap ((y : Int) * 2 ^ r)) = ((x / 2 ^ s + y * 2 ^ r % B64 : Nat) : Int) := by
  have e1 : (x : Int) / 2 ^ s = ((x / 2 ^ s : Nat) : Int) := by
    have e : (2 : Int) ^ s = ((2 ^ s : Nat) : Int) := by simp [Int.natCast_pow]
    rw [e, ← Int.natCast_ediv]
  have e2 : IntKind.u64.wrap ((y : Int) * 2 ^ r) = ((y * 2 ^ r % B64 : Nat) : Int) := by
    have e : (y : Int) * 2 ^ r = ((y * 2 ^ r : Nat) : Int) := by simp [Int.natCast_mul, Int.natCast_pow]
    rw [e, IntKind.wrap_u64]
    generalize y * 2 ^ r = q
    simp only [B64]; omega
  have hb := B64_split h
  have h3 : x / 2 ^ s < 2 ^ r := by
    rw [Nat.div_lt_iff_lt_mul (Nat.pow_pos (by decide)), Nat.mul_comm, ← hb]; exact hx
  have h4 : y * 2 ^ r % B64 % 2 ^ r = 0 := by
    rw [hb, Nat.mod_mul_left_mod]; simp
  have h5 : x / 2 ^ s < 18446744073709551616 := Nat.lt_of_le_of_lt (Nat.div_le_self _ _) hx
  rw [e1, e2, u64_or_nat _ _ h5 (Nat.mod_lt _ (by decide)), or_add_low h3 h4]
theorem shr_nat (x s : Nat) : (x : Int) / 2 ^ s = ((x / 2 ^ s : Nat) : Int) := by
  have e : (2 : Int) ^ s = ((2 ^ s : Nat) : Int) := by simp [Int.natCast_pow]
  rw [e, ← Int.natCast_ediv]
theorem u64at0 {t : Nat} {w : World} {base : Nat} {A : Option Addr} {xs : List Nat} (h : u64.Row t w base A xs) (hi : 0 < xs.length) :
    ∃ (a : Addr) (x : Nat), A = some a ∧ w.cell? a = some (.int .u64 x) ∧ x < 18446744073709551616 ∧ Hid (xs.getD 0 0 = x) := by
  obtain ⟨a, x, h1, h2, h3⟩ := u64at h hi
  exact ⟨a, x, h1, by simpa [Addr.add] using h2, h3⟩
set_option maxHeartbeats 2000000 in
set_option maxRecDepth 100000 in
theorem rshVU_calls (A : Option Addr) (n cx c g s t base : Nat) (xs zs : List Nat) (w : World) (hn : xs.length = n) (hA : u64.Row t w base A xs) (hg : Blk w g 109 (i64s zs)) (hz : n ≤ zs.length) (hzb : ∀ d ∈ zs, d < B64)
    (hs0 : 0 < s) (hs : s < 64) (hn0 : 0 < n) (hnb : n ≤ 1099511627776) (hne : ∀ a, A = some a → a.block < g) :
    Calls Tryz.prog 60 #[.slice (some ⟨g, 0, none⟩) n c, .slice A n cx, .int .u64 s] w fun e w' => ∃ (v : Nat) (ys : List Nat), e = .returned (.int .u64 v) ∧ Blk w' g 109 (i64s (ys ++ zs.drop n)) ∧ ys.length = n ∧ (∀ d ∈ ys, d < B64) ∧ val B64 ys = val B64 xs / 2 ^ s ∧ Below g w w' := by
  subst hn
  obtain ⟨r, hr⟩ : ∃ r, s + r = 64 := ⟨64 - s, by omega⟩
  have hrl : r < 64 := by omega
  have h1 := and63 hs
  have h2 : (64 : Int) - (s : Int) = (r : Int) := by omega
  have h3 := and63 hrl
  obtain ⟨a, x0, ha, hx0, hx0b, hx0e⟩ := u64at0 hA hn0
  subst ha
  have hab := hne a rfl
  have hlz : ((xs.length : Int) == 0) = false := by simp; intro e; rw [e] at hn0; simp at hn0
  have hsz : ((s : Int) == 0) = false := by simp; omega
  go_enter Tryz.func60, Tryz.ntmps60
  go_wp2
  go_loopw [8] (fun i wr => ∃ (k : Nat) (ys : List Nat), i = .int .i64 ((k : Int) + 1) ∧ k + 1 ≤ xs.length ∧ Hid (RightInv B64 xs s k ys) ∧ Hid (Blk wr g 109 (i64s (ys ++ zs.drop xs.length))) ∧ Hid (Below g w wr)) (fun i _ => xs.length - (intOf i).toNat)
  case atStart => exact ⟨0, zs.take xs.length, rfl, hn0, ⟨by simp; omega, fun d hd => hzb d (List.mem_of_mem_take hd), by simp [val]⟩, by rw [Hid, List.take_append_drop]; exact hg, Below.refl _ _⟩
  case round =>
    obtain ⟨k, ys, rfl, hk, hI, hZ, hW⟩ := hrel
    have hyl := hI.out.1
    have hbb : ∀ d ∈ ys ++ zs.drop xs.length, d < B64 := by
      intro d hd
      rcases List.mem_append.1 hd with h | h
      · exact hI.out.2.1 d h
      · exact hzb d (List.mem_of_mem_drop h)
    obtain ⟨z, hz1, hz2, _, _⟩ := hZ.out.at64 (i := k) (by simp; omega) hbb
    have HBB := Lib.hid hbb
    clear hbb
    obtain ⟨a', x, ha', hcx, hxb, hxe⟩ := u64at (i := k) hA (by omega)
    cases ha'
    replace hcx := (hW.out.cell (by rw [Addr.add_block]; exact hab)).trans hcx
    have HXX := Lib.hid (shr_nat x s)
    by_cases hlt : k + 1 < xs.length
    · obtain ⟨a', y, ha', hcy, hyb, hye⟩ := u64at hA hlt
      cases ha'
      replace hcy := (hW.out.cell (by rw [Addr.add_block]; exact hab)).trans hcy
      have hcy2 := cell_succ hcy (by omega)
      have hw1 : IntKind.i64.wrap ((k : Int) + 1 - 1) = (k : Int) := by rw [show (k : Int) + 1 - 1 = k from by omega]; exact IntWalk.i64_in _ (by omega)
      have hw2 : IntKind.i64.wrap (k : Int) = (k : Int) := IntWalk.i64_in _ (by omega)
      have hi1 : (0 : Int) ≤ (k : Int) := by omega
      have hi2 : (k : Int) < (xs.length : Int) := by omega
      have hi3 : (0 : Int) ≤ (k : Int) + 1 := by omega
      have hi4 : (k : Int) + 1 < (xs.length : Int) := by omega
      have hi5 : ((k : Int) + 1).toNat = k + 1 := by omega
      have hne1 : ¬ a.block = g := by omega
      have hne2 : ¬ g = a.block := by omega
      go_wp2
      go_region_held3 (fun w' => w'.cell? (a.add k) = some (.int .u64 x) ∧ w'.cell? ⟨a.block, a.off + (k + 1), none⟩ = some (.int .u64 y)) (first | exact ⟨cell_far_drew (by rw [Addr.add_block]; exact hne1) hcx, cell_far_drew hne1 hcy2⟩ | ((try dsimp only); (repeat' apply And.intro) <;> go_keep)) (fail)
      go_wp2
      go_roundw
      case rel =>
        have hst := RightInv.stepG (B64_split hr) hI.out (by omega) hxe.out hxb hye.out (by decide)
        rw [show (x + B64 * y) / 2 ^ s % B64 = x / 2 ^ s + y * 2 ^ r % B64 from by rw [B64_split hr]; exact shr_word (Nat.pow_pos (by decide)) (Nat.pow_pos (by decide)) (by rw [← B64_split hr]; exact hxb)] at hst
        have hb := hZ.out.set64 k _ _ (or_shr (y := y) hxb hr)
        rw [set_left (by omega)] at hb
        exact ⟨k + 1, _, by go_num, by omega, hst, hb, (hW.out.setCell (Nat.le_refl _) _).drew⟩
      case measure => simp [intOf]; omega
    · obtain rfl : k = xs.length - 1 := by omega
      have hst := RightInv.stepG (B64_split hr) (k := xs.length - 1) (g := 0) hI.out (by omega) hxe.out hxb (by rw [getD_ge (by omega)]) (by decide)
      rw [show (x + B64 * 0) / 2 ^ s % B64 = x / 2 ^ s from by rw [Nat.mul_zero, Nat.add_zero]; exact Nat.mod_eq_of_lt (Nat.lt_of_le_of_lt (Nat.div_le_self _ _) hxb), show xs.length - 1 + 1 = xs.length from by omega] at hst
      have hb := hZ.out.set64 (xs.length - 1) _ _ (shr_nat x s)
      rw [set_left (by omega)] at hb
      have HST := Lib.hid hst
      have HB := Lib.hid hb
      clear hst hb
      have hn1 : ((xs.length - 1 : Nat) : Int) + 1 = (xs.length : Int) := by omega
      have hq : IntKind.u64.wrap ((x0 : Int) * 2 ^ r) = ((x0 * 2 ^ r % B64 : Nat) : Int) := by
        rw [show (x0 : Int) * 2 ^ r = ((x0 * 2 ^ r : Nat) : Int) from by simp [Int.natCast_mul, Int.natCast_pow], IntKind.wrap_u64]
        generalize x0 * 2 ^ r = q
        simp only [B64]; omega
      go_wp2
      rw [hq]
      go_ret
      exact ⟨x0 * 2 ^ r % B64, _, rfl, HB.out, HST.out.1, HST.out.2.1, HST.out.done, hW.out.setCell (Nat.le_refl _) _⟩
end Go.Proofs.YtikdhkmcdmnadaaGreatFmt

namespace Go.Proofs.YtikdhkmcdmnadaaGreatFmt
open Go.RowKit

theorem bd_mid {pre zs ys post : List Nat} (h : ∀ d ∈ pre ++ (zs ++ post), d < B64) (hy : ∀ d ∈ ys, d < B64) : ∀ d ∈ pre ++ (ys ++ post), d < B64 := by
  intro d hd
  rcases List.mem_append.1 hd with h1 | h1
  · exact h d (List.mem_append_left _ h1)
  · rcases List.mem_append.1 h1 with h1 | h1
    · exact hy d h1
    · exact h d (List.mem_append_right _ (List.mem_append_right _ h1))
theorem bd_in {pre zs post : List Nat} (h : ∀ d ∈ pre ++ (zs ++ post), d < B64) : ∀ d ∈ zs, d < B64 :=
  fun d hd => h d (List.mem_append_right _ (List.mem_append_left _ hd))
/-- writing a word in the middle -/
theorem set_mid {α : Type} {pre zs post : List α} {k n : Nat} {v : α} (ho : pre.length = n) (h : k < zs.length) : (pre ++ (zs ++ post)).set (n + k) v = pre ++ (zs.set k v ++ post) := by
  subst ho
  rw [List.set_append, if_neg (by omega), Nat.add_sub_cancel_left, set_left h]
theorem shl_nat (x r : Nat) : IntKind.u64.wrap ((x : Int) * 2 ^ r) = ((x * 2 ^ r % B64 : Nat) : Int) := by
  rw [show (x : Int) * 2 ^ r = ((x * 2 ^ r : Nat) : Int) from by simp [Int.natCast_mul, Int.natCast_pow], IntKind.wrap_u64]
  generalize x * 2 ^ r = q
  simp only [B64]; omega
theorem set_take_top {xs : List Nat} {k d : Nat} (h : k < xs.length) : (xs.take (k + 1)).set k d = xs.take k ++ [d] := by
  rw [take_snoc' h, List.set_append, if_neg (by simp; omega)]
  simp [Nat.min_eq_left (Nat.le_of_lt h)]
/-- x << s | y >> r -/
theorem or_shl {x y s r : Nat} (hy : y < 18446744073709551616) (h : s + r = 64) :
    bits .or .u64 (IntKind.u64.wrap ((x : Int) * 2 ^ s)) ((y : Int) / 2 ^ r) = ((x * 2 ^ s % B64 + y / 2 ^ r : Nat) : Int) := by
  have hb := B64_split h
  have h3 : y / 2 ^ r < 2 ^ s := by
    rw [Nat.div_lt_iff_lt_mul (Nat.pow_pos (by decide)), ← hb]; exact hy
  have h4 : x * 2 ^ s % B64 % 2 ^ s = 0 := by
    rw [hb, Nat.mod_mul_right_mod]; simp
  have h5 : y / 2 ^ r < 18446744073709551616 := Nat.lt_of_le_of_lt (Nat.div_le_self _ _) hy
  rw [shl_nat, shr_nat, u64_or_nat _ _ (Nat.mod_lt _ (by decide)) h5, Nat.or_comm, or_add_low h3 h4, Nat.add_comm]
/-- the words written so far, the upper ones, in a shift to the left -/
structure LshInv (s r : Nat) (xs : List Nat) (i : Nat) (top : List Nat) (c : Nat) : Prop where
  len : i + 1 + top.length = xs.length
  bd : ∀ d ∈ top, d < B64
  eq : val B64 top + B64 ^ top.length * c = val B64 (xs.drop (i + 1)) * 2 ^ s + xs.getD i 0 / 2 ^ r
theorem LshInv.start {s r : Nat} {xs : List Nat} (h0 : 0 < xs.length) : LshInv s r xs (xs.length - 1) [] (xs.getD (xs.length - 1) 0 / 2 ^ r) :=
  ⟨by simp; omega, by simp, by rw [show xs.length - 1 + 1 = xs.length from by omega, List.drop_length]; simp [val]⟩
theorem shl_split {x s r : Nat} (h : s + r = 64) : x * 2 ^ s % B64 + B64 * (x / 2 ^ r) = x * 2 ^ s := by
  have hb := B64_split h
  have : x * 2 ^ s / B64 = x / 2 ^ r := by
    rw [hb, Nat.mul_comm x, Nat.mul_div_mul_left _ _ (Nat.pow_pos (by decide))]
  rw [← this]; exact Nat.mod_add_div _ _
theorem lsh_arith {T P c V S q m x y B : Nat} (e : T + P * c = V * S + q) (h : m + B * q = x * S) : m + y + B * T + P * B * c = (x + B * V) * S + y := by
  have e3 : B * (T + P * c) = B * (V * S + q) := by rw [e]
  have e4 : P * B * c = B * (P * c) := by rw [Nat.mul_comm P, Nat.mul_assoc]
  have e5 : (x + B * V) * S = x * S + B * (V * S) := by rw [Nat.add_mul, Nat.mul_assoc]
  rw [Nat.mul_add, Nat.mul_add] at e3
  rw [e4, e5]; omega
theorem LshInv.step {s r i c x y : Nat} {xs top : List Nat} (h : LshInv s r xs (i + 1) top c) (hr : s + r = 64) (hx : xs.getD (i + 1) 0 = x) (hy : xs.getD i 0 = y) (hyb : y < B64) :
    LshInv s r xs i ((x * 2 ^ s % B64 + y / 2 ^ r) :: top) c := by
  have hb := B64_split hr
  have h3 : y / 2 ^ r < 2 ^ s := by
    rw [Nat.div_lt_iff_lt_mul (Nat.pow_pos (by decide)), ← hb]; exact hyb
  refine ⟨by have := h.len; simp; omega, fun d hd => ?_, ?_⟩
  · rcases List.mem_cons.1 hd with rfl | hd
    · have e : x * 2 ^ s % B64 = x * 2 ^ s % (2 ^ s * 2 ^ r) := by rw [← hb]
      rw [e, Nat.mul_comm x, Nat.mul_mod_mul_left, hb]
      have : x % 2 ^ r < 2 ^ r := Nat.mod_lt _ (Nat.pow_pos (by decide))
      calc 2 ^ s * (x % 2 ^ r) + y / 2 ^ r < 2 ^ s * (x % 2 ^ r) + 2 ^ s := by omega
        _ = 2 ^ s * (x % 2 ^ r + 1) := by rw [Nat.mul_add, Nat.mul_one]
        _ ≤ 2 ^ s * 2 ^ r := Nat.mul_le_mul_left _ this
    · exact h.bd d hd
  · have e := h.eq
    rw [hx] at e
    have e2 := drop_val' B64 xs (i + 1)
    rw [hx] at e2
    rw [hy, e2]
    simp only [val, List.length_cons, Nat.pow_succ]
    exact lsh_arith e (shl_split hr)
theorem LshInv.done {s r c x : Nat} {xs top : List Nat} (h : LshInv s r xs 0 top c) (hr : s + r = 64) (hx : xs.getD 0 0 = x) :
    (x * 2 ^ s % B64 :: top).length = xs.length ∧ (∀ d ∈ x * 2 ^ s % B64 :: top, d < B64) ∧ val B64 (x * 2 ^ s % B64 :: top) + B64 ^ xs.length * c = val B64 xs * 2 ^ s := by
  refine ⟨by have := h.len; simp; omega, fun d hd => ?_, ?_⟩
  · rcases List.mem_cons.1 hd with rfl | hd
    · exact Nat.mod_lt _ (by decide)
    · exact h.bd d hd
  · have e := h.eq
    rw [hx] at e
    have e2 := drop_val' B64 xs 0
    rw [hx, List.drop_zero] at e2
    have hl := h.len
    rw [e2, show xs.length = top.length + 1 from by omega]
    simp only [val, Nat.pow_succ]
    exact lsh_arith (y := 0) e (shl_split hr)

set_option maxHeartbeats 2000000 in
set_option maxRecDepth 100000 in
theorem lshVU_calls (A : Option Addr) (n c cx g o s t base : Nat) (xs pre zs post : List Nat) (w : World) (hn : xs.length = n) (hA : u64.Row t w base A xs) (hg : Blk w g 109 (i64s (pre ++ (zs ++ post)))) (hz : zs.length = n) (hpo : pre.length = o) (hzb : ∀ d ∈ pre ++ (zs ++ post), d < B64)
    (hs0 : 0 < s) (hs : s < 64) (hn0 : 0 < n) (hnb : n ≤ 1099511627776) (hob : o ≤ 1099511627776) (hne : ∀ a, A = some a → a.block < g) :
    Calls Tryz.prog 59 #[.slice (some ⟨g, o, none⟩) n c, .slice A n cx, .int .u64 s] w fun e w' => ∃ (v : Nat) (ys : List Nat), e = .returned (.int .u64 v) ∧ Blk w' g 109 (i64s (pre ++ (ys ++ post))) ∧ ys.length = n ∧ (∀ d ∈ ys, d < B64) ∧ val B64 ys + B64 ^ n * v = val B64 xs * 2 ^ s ∧ v < B64 ∧ Below g w w' := by
  subst hn
  obtain ⟨r, hr⟩ : ∃ r, s + r = 64 := ⟨64 - s, by omega⟩
  have hrl : r < 64 := by omega
  have h1 := and63 hs
  have h2 : (64 : Int) - (s : Int) = (r : Int) := by omega
  have h3 := and63 hrl
  obtain ⟨a, x0, ha, hx0, hx0b, hx0e⟩ := u64at0 hA hn0
  subst ha
  have hab := hne a rfl
  obtain ⟨a', x1, ha', hx1, hx1b, hx1e⟩ := u64at (i := xs.length - 1) hA (by omega)
  cases ha'
  have hlz : ((xs.length : Int) == 0) = false := by simp; intro e; rw [e] at hn0; simp at hn0
  have hsz : ((s : Int) == 0) = false := by simp; omega
  have hl1 : (xs.length : Int) - 1 = ((xs.length - 1 : Nat) : Int) := by omega
  have HV := Lib.hid (shr_nat x1 r)
  have hI0 := LshInv.start (s := s) (r := r) hn0
  rw [hx1e.out] at hI0
  have HI0 := Lib.hid hI0
  clear hI0
  have HZB := Lib.hid hzb
  clear hzb
  go_enter Tryz.func59, Tryz.ntmps59
  go_wp2
  go_loopw [8] (fun i wr => ∃ (k : Nat) (top : List Nat), i = .int .i64 (k : Int) ∧ k < xs.length ∧ Hid (LshInv s r xs k top (x1 / 2 ^ r)) ∧ Hid (Blk wr g 109 (i64s (pre ++ ((zs.take (k + 1) ++ top) ++ post)))) ∧ Hid (Below g w wr)) (fun i _ => (intOf i).toNat)
  case atStart => exact ⟨xs.length - 1, [], by go_num, by omega, HI0.out, by rw [Hid, show xs.length - 1 + 1 = zs.length from by omega, List.take_length, List.append_nil]; exact hg, Below.refl _ _⟩
  case round =>
    obtain ⟨k, top, rfl, hk, hI, hZ, hW⟩ := hrel
    have hyl := hI.out.len
    have hbb := bd_mid HZB.out (ys := zs.take (k + 1) ++ top) (fun d hd => by
      rcases List.mem_append.1 hd with h | h
      · exact bd_in HZB.out d (List.mem_of_mem_take h)
      · exact hI.out.bd d h)
    obtain ⟨z, hz1, hz2, _, _⟩ := hZ.out.at64 (i := o + k) (by simp; omega) hbb
    have HBB := Lib.hid hbb
    clear hbb
    obtain ⟨a', x, ha', hcx, hxb, hxe⟩ := u64at (i := k) hA (by omega)
    cases ha'
    replace hcx := (hW.out.cell (by rw [Addr.add_block]; exact hab)).trans hcx
    have hne1 : ¬ a.block = g := by omega
    have hne2 : ¬ g = a.block := by omega
    by_cases hlt : 0 < k
    · obtain ⟨j, rfl⟩ : ∃ j, k = j + 1 := ⟨k - 1, by omega⟩
      obtain ⟨a', y, ha', hcy, hyb, hye⟩ := u64at (i := j) hA (by omega)
      cases ha'
      replace hcy := (hW.out.cell (by rw [Addr.add_block]; exact hab)).trans hcy
      have hcx2 := cell_succ hcx (by omega)
      have hw1 : IntKind.i64.wrap (((j + 1 : Nat) : Int) - 1) = (j : Int) := by rw [show ((j + 1 : Nat) : Int) - 1 = j from by omega]; exact IntWalk.i64_in _ (by omega)
      have hw2 : IntKind.i64.wrap (j : Int) = (j : Int) := IntWalk.i64_in _ (by omega)
      have hi1 : (0 : Int) ≤ (j : Int) := by omega
      have hi2 : (j : Int) < (xs.length : Int) := by omega
      have hi4 : ((j + 1 : Nat) : Int) < (xs.length : Int) := by omega
      have hi3 : (0 : Int) ≤ ((j + 1 : Nat) : Int) := by omega
      have hi5 : (0 : Int) ≤ (j : Int) + 1 := by omega
      have hi6 : (j : Int) + 1 < (xs.length : Int) := by omega
      have hi7 : ((j : Int) + 1).toNat = j + 1 := by omega
      have hw3 : IntKind.i64.wrap ((j : Int) + 1 - 1) = (j : Int) := by rw [show (j : Int) + 1 - 1 = j from by omega]; exact hw2
      go_wp2
      go_region_held3 (fun w' => w'.cell? (a.add j) = some (.int .u64 y) ∧ w'.cell? ⟨a.block, a.off + (j + 1), none⟩ = some (.int .u64 x)) (first | exact ⟨cell_far_drew (by rw [Addr.add_block]; exact hne1) hcy, cell_far_drew hne1 hcx2⟩ | ((try dsimp only); (repeat' apply And.intro) <;> go_keep)) (fail)
      go_wp2
      go_roundw
      case rel =>
        have hst := LshInv.step hI.out hr hxe.out hye.out hyb
        have hb := hZ.out.set64 (o + (j + 1)) _ _ (or_shl (x := x) hyb hr)
        rw [set_mid hpo (by simp; omega)] at hb
        have e : (zs.take (j + 1 + 1) ++ top).set (j + 1) (x * 2 ^ s % B64 + y / 2 ^ r) = zs.take (j + 1) ++ ((x * 2 ^ s % B64 + y / 2 ^ r) :: top) := by
          rw [set_left (by simp; omega), set_take_top (by omega), List.append_assoc]; rfl
        rw [e] at hb
        exact ⟨j, _, rfl, by omega, hst, hb, (hW.out.setCell (Nat.le_refl _) _).drew⟩
      case measure => simp [intOf]
    · obtain rfl : k = 0 := by omega
      have hst := hI.out.done hr hx0e.out
      have hb := hZ.out.set64 o _ _ (shl_nat x0 s)
      have e : (pre ++ ((zs.take (0 + 1) ++ top) ++ post)).set o (x0 * 2 ^ s % B64) = pre ++ ((x0 * 2 ^ s % B64 :: top) ++ post) := by
        have := set_mid (post := post) (v := x0 * 2 ^ s % B64) (k := 0) (zs := zs.take (0 + 1) ++ top) hpo (by simp; omega)
        simp only [Nat.add_zero, Nat.zero_add] at this ⊢
        rw [this, set_left (by simp; omega)]
        obtain ⟨q, qs, rfl⟩ : ∃ q qs, zs = q :: qs := by cases zs with | nil => simp at hz; omega | cons q qs => exact ⟨q, qs, rfl⟩
        simp
      rw [e] at hb
      have HST := Lib.hid hst
      have HB := Lib.hid hb
      clear hst hb
      have hx0' := (hW.out.cell hab).trans hx0
      simp only [Nat.add_zero] at hz1 hz2
      go_wp2
      go_ret
      exact ⟨x1 / 2 ^ r, _, by rw [← HV.out]; rfl, HB.out, HST.out.1, HST.out.2.1, HST.out.2.2, Nat.lt_of_le_of_lt (Nat.div_le_self _ _) hx1b, hW.out.setCell (Nat.le_refl _) _⟩
end Go.Proofs.YtikdhkmcdmnadaaGreatFmt
