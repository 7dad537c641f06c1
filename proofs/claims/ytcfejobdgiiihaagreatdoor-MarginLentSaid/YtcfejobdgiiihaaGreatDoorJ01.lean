/- Walks and plain laws of this seat's functions, part 1: N1 N2 N3 N4 N5 N6 N7. -/
import Derived.Laws.CopyOwn
import Derived.Laws.CopyRow
import Derived.LaidEqlPtr
import Derived.Test.YtcfejobdgiiihaaGreatDoorJ00
set_option linter.unusedVariables false
set_option linter.unusedSimpArgs false
namespace Go.Proofs.YtcfejobdgiiihaaGreatDoor
open Go.RowKit

/-! ### math/big: whole numbers as words of 64 bits -/
abbrev B64 : Nat := 18446744073709551616
theorem run_add64 (x y c : Nat) (hc : c = 0 ∨ c = 1) (w : World) : (callFunc 82 #[.int .u64 x, .int .u64 y, .int .u64 c]).run Tryz.prog w = .ok (.value (.tuple #[.int .u64 ((x + y + c) % 2 ^ 64 : Nat), .int .u64 ((x + y + c) / 2 ^ 64 : Nat)])) w := by
  rcases hc with rfl | rfl <;> kernel_rfl
theorem run_sub64 (x y c : Nat) (hc : c = 0 ∨ c = 1) (w : World) : (callFunc 81 #[.int .u64 x, .int .u64 y, .int .u64 c]).run Tryz.prog w = .ok (.value (.tuple #[.int .u64 ((x + 2 ^ 64 - y - c) % 2 ^ 64 : Nat), .int .u64 (if x < y + c then 1 else 0 : Nat)])) w := by
  have h : (callFunc 81 #[.int .u64 x, .int .u64 y, .int .u64 c]).run Tryz.prog w = .ok (.value (.tuple #[.int .u64 ((x + 2 ^ 64 - y - c) % 2 ^ 64 : Nat), .int .u64 (Int.ofNat (if x < y + c then 1 else 0))])) w := by
    rcases hc with rfl | rfl <;> kernel_rfl
  exact h
@[go_sem] theorem run_rshVU (a b c : Value) (w : World) : (callFunc 136 #[a, b, c]).run Tryz.prog w = .ok (.enter 114 #[a, b, c]) w := by kernel_rfl
@[go_sem] theorem run_lshVU (a b c : Value) (w : World) : (callFunc 140 #[a, b, c]).run Tryz.prog w = .ok (.enter 113 #[a, b, c]) w := by kernel_rfl
@[go_sem] theorem run_addVV (a b c : Value) (w : World) : (callFunc 137 #[a, b, c]).run Tryz.prog w = .ok (.enter 111 #[a, b, c]) w := by kernel_rfl
@[go_sem] theorem run_subVV (a b c : Value) (w : World) : (callFunc 130 #[a, b, c]).run Tryz.prog w = .ok (.enter 112 #[a, b, c]) w := by kernel_rfl

/-! rows of words -/
theorem u64at {t : Nat} {w : World} {base : Nat} {A : Option Addr} {xs : List Nat} (h : u64.Row t w base A xs) {i : Nat} (hi : i < xs.length) :
    ∃ (a : Addr) (x : Nat), A = some a ∧ w.cell? (a.add i) = some (.int .u64 x) ∧ x < 18446744073709551616 ∧ Hid (xs.getD i 0 = x) := by
  obtain ⟨a, x, h1, h2, h3, h4⟩ := Rd.Row.get h hi
  exact ⟨a, x, h1, h2, h3, by have := h4.out; simp [Hid, this]⟩
theorem u64bd {t : Nat} {w : World} {base : Nat} {A : Option Addr} {xs : List Nat} (h : u64.Row t w base A xs) : ∀ d ∈ xs, d < B64 := by
  intro d hd
  obtain ⟨i, hi, rfl⟩ := List.getElem_of_mem hd
  obtain ⟨_, cs, _, _, _, hr, _⟩ := h i _ (List.getElem?_eq_getElem hi)
  exact hr.2
theorem Blk.at64 {w : World} {b t : Nat} {zs : List Nat} (h : Blk w b t (i64s zs)) {i : Nat} (hi : i < zs.length) (hz : ∀ d ∈ zs, d < B64) :
    ∃ z, w.cell? ⟨b, i, none⟩ = some (.int .u64 (z : Nat)) ∧ w.frozen? ⟨b, i, none⟩ = false ∧ z < 18446744073709551616 ∧ Hid (zs.getD i 0 = z) := by
  refine ⟨zs.getD i 0, ?_, h.frozen i, getD_mem_lt hz hi, rfl⟩
  rw [h.cell]; simp [i64s, hi]
theorem Blk.set64 {w : World} {b t : Nat} {zs : List Nat} (h : Blk w b t (i64s zs)) (i x : Nat) (v : Int) (hv : v = x) :
    Blk (w.setCell ⟨b, i, none⟩ (.int .u64 v)) b t (i64s (zs.set i x)) := by
  subst hv
  have := h.set i (.int .u64 (x : Nat))
  simpa [i64s, List.map_set] using this
theorem made64 (n : Nat) : (madeCells #[Value.int .u64 0] n).toList = i64s (List.replicate n 0) := by
  simp [i64s, madeCells, Nat.mod_one, List.map_const']
theorem u64row {t b : Nat} {w : World} {base : Nat} {zs : List Nat} (h : Blk w b t (i64s zs)) (hz : ∀ d ∈ zs, d < B64) (n : Nat) : u64.Row t w base (some ⟨b, 0, none⟩) (zs.take n) :=
  h.row (by simp [i64s, List.map_take]) (fun x hx => hz x (List.mem_of_mem_take hx))
theorem u64all {t b : Nat} {w : World} {base : Nat} {zs : List Nat} (h : Blk w b t (i64s zs)) (hz : ∀ d ∈ zs, d < B64) : u64.Row t w base (some ⟨b, 0, none⟩) zs := by
  have := u64row (base := base) h hz zs.length
  rwa [List.take_length] at this
theorem Addr.add_add (a : Addr) (m n : Nat) : (a.add m).add n = a.add (m + n) := by
  unfold Addr.add
  by_cases hm : m = 0
  · subst hm; simp
  · by_cases hn : n = 0
    · subst hn; simp [hm]
    · simp [hm, hn, Nat.add_assoc]
/-- a part of a row -/
theorem u64drop {t : Nat} {w : World} {base : Nat} {a : Addr} {xs : List Nat} (h : u64.Row t w base (some a) xs) (k : Nat) : u64.Row t w base (some (a.add k)) (xs.drop k) := by
  intro i x hi
  rw [List.getElem?_drop] at hi
  obtain ⟨a', cs, ha, hok, hlt, hr, hc⟩ := h _ x hi
  cases ha
  refine ⟨_, cs, rfl, by rw [Addr.add_block]; exact hok, by rw [Addr.add_block]; exact hlt, hr, fun j u hj => ?_⟩
  have := hc j u hj
  simp only [u64, Rd.scalar, Nat.mul_one] at this ⊢
  rw [Addr.add_add, ← Nat.add_assoc]; exact this
theorem u64take {t : Nat} {w : World} {base : Nat} {A : Option Addr} {xs : List Nat} (h : u64.Row t w base A xs) (k : Nat) : u64.Row t w base A (xs.take k) := by
  intro i x hi
  rw [List.getElem?_take] at hi
  split at hi
  · exact h i x hi
  · simp at hi
/-- a whole number as a trimmed row of words -/
def wRd : Rd Nat where
  sz := 1
  E := [163]
  R w base m cs := ∃ (xs : List Nat) (A : Option Addr) (c : Nat), cs = [.slice A xs.length c] ∧ xs.length ≤ c ∧ u64.Row 163 w base A xs ∧ Trimmed xs ∧ val B64 xs = m
  len h := by obtain ⟨_, _, _, rfl, _⟩ := h; rfl
  one h u hu := by obtain ⟨_, _, _, rfl, _⟩ := h; simp at hu; subst hu; rfl
  keep h hk := by obtain ⟨xs, A, c, rfl, h1, h2, h3⟩ := h; exact ⟨xs, A, c, rfl, h1, h2.keep hk (by simp) (fun q hq => by simp [u64, Rd.scalar] at hq), h3⟩

set_option maxHeartbeats 400000 in
theorem nmake_one (w : World) : Calls Tryz.prog 129 #[.slice none 0 0, .int .i64 1] w fun e w' => e = .returned (.slice (some ⟨w.heap.size, 0, none⟩) 1 1) ∧ w' = w.alloc (.cells (madeCells #[.int .u64 0] 1) 163) := by
  have hm := fun W => run_make_row' (P := Tryz.prog) 147 163 (.int .u64 0) 8 (by kernel_rfl) (by kernel_rfl) rfl .i64 .i64 1 (by omega) (by omega) W
  simp only [Int.natCast_one] at hm
  go_enter Tryz.func129, Tryz.ntmps129
  go_wp2
  go_ret
  exact ⟨rfl, rfl⟩
set_option maxHeartbeats 400000 in
theorem nmake_fit (A : Option Addr) (l c n : Nat) (w : World) (hn : n ≤ c) (hc : c ≤ 1099511627776) : Calls Tryz.prog 129 #[.slice A l c, .int .i64 n] w fun e w' => e = .returned (.slice A n c) ∧ w = w' := by
  go_enter Tryz.func129, Tryz.ntmps129
  go_wp2

  go_ret
  exact ⟨rfl, rfl⟩
end Go.Proofs.YtcfejobdgiiihaaGreatDoor

namespace Go.Proofs.YtcfejobdgiiihaaGreatDoor
open Go.RowKit

theorem cell_far {w : World} {p q : Addr} {u v : Value} (h : ¬ q.block = p.block) (hc : w.cell? q = some v) : (w.setCell p u).cell? q = some v :=
  (World.cell?_of_block (Below.heap_setCell w p u q.block h)).trans hc
theorem cell_far_drew {w : World} {p q : Addr} {u v : Value} (h : ¬ q.block = p.block) (hc : w.cell? q = some v) : (w.setCell p u).drew.cell? q = some v := cell_far h hc
theorem set_left {α : Type} {ys tl : List α} {k : Nat} {v : α} (h : k < ys.length) : (ys ++ tl).set k v = ys.set k v ++ tl := by
  rw [List.set_append, if_pos h]
theorem and63 {s : Nat} (h : s < 64) : bits .and .u64 (s : Int) 63 = (s : Int) := by
  rw [show (63 : Int) = ((2 ^ 6 - 1 : Nat) : Int) from by decide, u64_and_nat _ _ (by omega) (by decide), Nat.and_two_pow_sub_one_eq_mod, Nat.mod_eq_of_lt (by omega)]
theorem two_pow_lt {r : Nat} (h : r < 64) : 2 ^ r ≤ 9223372036854775808 := by
  have := Nat.pow_le_pow_right (show 0 < 2 by decide) (show r ≤ 63 by omega)
  omega
theorem B64_split {s r : Nat} (h : s + r = 64) : B64 = 2 ^ s * 2 ^ r := by rw [← Nat.pow_add, h]
/-- x >> s | y << r -/
theorem or_shr {x y s r : Nat} (hx : x < 18446744073709551616) (h : s + r = 64) :
    bits .or .u64 ((x : Int) / 2 ^ s) (IntKind.u64.wrap ((y : Int) * 2 ^ r)) = ((x / 2 ^ s + y * 2 ^ r % B64 : Nat) : Int) := by
  have e1 : (x : Int) / 2 ^ s = ((x / 2 ^ s : Nat) : Int) := by
    have e : (2 : Int) ^ s = ((2 ^ s : Nat) : Int) := by simp [Int.natCast_pow]
    rw [e, ← Int.natCast_ediv]
  have e2 : IntKind.u64.wrap ((y : Int) * 2 ^ r) = ((y * 2 ^ r % B64 : Nat) : Int) := by
    have e : (y : Int) * 2 ^ r = ((y * 2 ^ r : Nat) : Int) := by simp [Int.natCast_mul, Int.natCast_pow]
    rw [e, IntKind.wrap_u64]
    generalize y * 2 ^ r = q
    simp only [B64]; omega
  have hb := B64_split h
  have h3 : x / 2 ^ s < 2 ^ r := by
    rw [Nat.div_lt_iff_lt_mul (Nat.pow_pos (by decide)), Nat.mul_comm, ← hb]; exact hx
  have h4 : y * 2 ^ r % B64 % 2 ^ r = 0 := by
    rw [hb, Nat.mod_mul_left_mod]; simp
  have h5 : x / 2 ^ s < 18446744073709551616 := Nat.lt_of_le_of_lt (Nat.div_le_self _ _) hx
  rw [e1, e2, u64_or_nat _ _ h5 (Nat.mod_lt _ (by decide)), or_add_low h3 h4]
theorem shr_nat (x s : Nat) : (x : Int) / 2 ^ s = ((x / 2 ^ s : Nat) : Int) := by
  have e : (2 : Int) ^ s = ((2 ^ s : Nat) : Int) := by simp [Int.natCast_pow]
  rw [e, ← Int.natCast_ediv]
theorem u64at0 {t : Nat} {w : World} {base : Nat} {A : Option Addr} {xs : List Nat} (h : u64.Row t w base A xs) (hi : 0 < xs.length) :
    ∃ (a : Addr) (x : Nat), A = some a ∧ w.cell? a = some (.int .u64 x) ∧ x < 18446744073709551616 ∧ Hid (xs.getD 0 0 = x) := by
  obtain ⟨a, x, h1, h2, h3⟩ := u64at h hi
  exact ⟨a, x, h1, by simpa [Addr.add] using h2, h3⟩
set_option maxHeartbeats 2000000 in
set_option maxRecDepth 100000 in
theorem rshVU_calls (A : Option Addr) (n cx c g s t base : Nat) (xs zs : List Nat) (w : World) (hn : xs.length = n) (hA : u64.Row t w base A xs) (hg : Blk w g 163 (i64s zs)) (hz : n ≤ zs.length) (hzb : ∀ d ∈ zs, d < B64)
    (hs0 : 0 < s) (hs : s < 64) (hn0 : 0 < n) (hnb : n ≤ 1099511627776) (hne : ∀ a, A = some a → a.block < g) :
    Calls Tryz.prog 114 #[.slice (some ⟨g, 0, none⟩) n c, .slice A n cx, .int .u64 s] w fun e w' => ∃ (v : Nat) (ys : List Nat), e = .returned (.int .u64 v) ∧ Blk w' g 163 (i64s (ys ++ zs.drop n)) ∧ ys.length = n ∧ (∀ d ∈ ys, d < B64) ∧ val B64 ys = val B64 xs / 2 ^ s ∧ Below g w w' := by
  subst hn
  obtain ⟨r, hr⟩ : ∃ r, s + r = 64 := ⟨64 - s, by omega⟩
  have hrl : r < 64 := by omega
  have h1 := and63 hs
  have h2 : (64 : Int) - (s : Int) = (r : Int) := by omega
  have h3 := and63 hrl
  obtain ⟨a, x0, ha, hx0, hx0b, hx0e⟩ := u64at0 hA hn0
  subst ha
  have hab := hne a rfl
  have hlz : ((xs.length : Int) == 0) = false := by simp; intro e; rw [e] at hn0; simp at hn0
  have hsz : ((s : Int) == 0) = false := by simp; omega
  go_enter Tryz.func114, Tryz.ntmps114
  go_wp2
  go_loopw [8] (fun i wr => ∃ (k : Nat) (ys : List Nat), i = .int .i64 ((k : Int) + 1) ∧ k + 1 ≤ xs.length ∧ Hid (RightInv B64 xs s k ys) ∧ Hid (Blk wr g 163 (i64s (ys ++ zs.drop xs.length))) ∧ Hid (Below g w wr)) (fun i _ => xs.length - (intOf i).toNat)
  case atStart => exact ⟨0, zs.take xs.length, rfl, hn0, ⟨by simp; omega, fun d hd => hzb d (List.mem_of_mem_take hd), by simp [val]⟩, by rw [Hid, List.take_append_drop]; exact hg, Below.refl _ _⟩
  case round =>
    obtain ⟨k, ys, rfl, hk, hI, hZ, hW⟩ := hrel
    have hyl := hI.out.1
    have hbb : ∀ d ∈ ys ++ zs.drop xs.length, d < B64 := by
      intro d hd
      rcases List.mem_append.1 hd with h | h
      · exact hI.out.2.1 d h
      · exact hzb d (List.mem_of_mem_drop h)
    obtain ⟨z, hz1, hz2, _, _⟩ := hZ.out.at64 (i := k) (by simp; omega) hbb
    have HBB := Lib.hid hbb
    clear hbb
    obtain ⟨a', x, ha', hcx, hxb, hxe⟩ := u64at (i := k) hA (by omega)
    cases ha'
    replace hcx := (hW.out.cell (by rw [Addr.add_block]; exact hab)).trans hcx
    have HXX := Lib.hid (shr_nat x s)
    by_cases hlt : k + 1 < xs.length
    · obtain ⟨a', y, ha', hcy, hyb, hye⟩ := u64at hA hlt
      cases ha'
      replace hcy := (hW.out.cell (by rw [Addr.add_block]; exact hab)).trans hcy
      have hcy2 := cell_succ hcy (by omega)
      have hw1 : IntKind.i64.wrap ((k : Int) + 1 - 1) = (k : Int) := by rw [show (k : Int) + 1 - 1 = k from by omega]; exact IntWalk.i64_in _ (by omega)
      have hw2 : IntKind.i64.wrap (k : Int) = (k : Int) := IntWalk.i64_in _ (by omega)
      have hi1 : (0 : Int) ≤ (k : Int) := by omega
      have hi2 : (k : Int) < (xs.length : Int) := by omega
      have hi3 : (0 : Int) ≤ (k : Int) + 1 := by omega
      have hi4 : (k : Int) + 1 < (xs.length : Int) := by omega
      have hi5 : ((k : Int) + 1).toNat = k + 1 := by omega
      have hne1 : ¬ a.block = g := by omega
      have hne2 : ¬ g = a.block := by omega
      go_wp2
      go_region_held3 (fun w' => w'.cell? (a.add k) = some (.int .u64 x) ∧ w'.cell? ⟨a.block, a.off + (k + 1), none⟩ = some (.int .u64 y)) (first | exact ⟨cell_far_drew (by rw [Addr.add_block]; exact hne1) hcx, cell_far_drew hne1 hcy2⟩ | ((try dsimp only); (repeat' apply And.intro) <;> go_keep)) (fail)
      go_wp2
      go_roundw
      case rel =>
        have hst := RightInv.stepG (B64_split hr) hI.out (by omega) hxe.out hxb hye.out (by decide)
        rw [show (x + B64 * y) / 2 ^ s % B64 = x / 2 ^ s + y * 2 ^ r % B64 from by rw [B64_split hr]; exact shr_word (Nat.pow_pos (by decide)) (Nat.pow_pos (by decide)) (by rw [← B64_split hr]; exact hxb)] at hst
        have hb := hZ.out.set64 k _ _ (or_shr (y := y) hxb hr)
        rw [set_left (by omega)] at hb
        exact ⟨k + 1, _, by go_num, by omega, hst, hb, (hW.out.setCell (Nat.le_refl _) _).drew⟩
      case measure => simp [intOf]; omega
    · obtain rfl : k = xs.length - 1 := by omega
      have hst := RightInv.stepG (B64_split hr) (k := xs.length - 1) (g := 0) hI.out (by omega) hxe.out hxb (by rw [getD_ge (by omega)]) (by decide)
      rw [show (x + B64 * 0) / 2 ^ s % B64 = x / 2 ^ s from by rw [Nat.mul_zero, Nat.add_zero]; exact Nat.mod_eq_of_lt (Nat.lt_of_le_of_lt (Nat.div_le_self _ _) hxb), show xs.length - 1 + 1 = xs.length from by omega] at hst
      have hb := hZ.out.set64 (xs.length - 1) _ _ (shr_nat x s)
      rw [set_left (by omega)] at hb
      have HST := Lib.hid hst
      have HB := Lib.hid hb
      clear hst hb
      have hn1 : ((xs.length - 1 : Nat) : Int) + 1 = (xs.length : Int) := by omega
      have hq : IntKind.u64.wrap ((x0 : Int) * 2 ^ r) = ((x0 * 2 ^ r % B64 : Nat) : Int) := by
        rw [show (x0 : Int) * 2 ^ r = ((x0 * 2 ^ r : Nat) : Int) from by simp [Int.natCast_mul, Int.natCast_pow], IntKind.wrap_u64]
        generalize x0 * 2 ^ r = q
        simp only [B64]; omega
      go_wp2
      rw [hq]
      go_ret
      exact ⟨x0 * 2 ^ r % B64, _, rfl, HB.out, HST.out.1, HST.out.2.1, HST.out.done, hW.out.setCell (Nat.le_refl _) _⟩
end Go.Proofs.YtcfejobdgiiihaaGreatDoor

namespace Go.Proofs.YtcfejobdgiiihaaGreatDoor
open Go.RowKit

theorem bd_mid {pre zs ys post : List Nat} (h : ∀ d ∈ pre ++ (zs ++ post), d < B64) (hy : ∀ d ∈ ys, d < B64) : ∀ d ∈ pre ++ (ys ++ post), d < B64 := by
  intro d hd
  rcases List.mem_append.1 hd with h1 | h1
  · exact h d (List.mem_append_left _ h1)
  · rcases List.mem_append.1 h1 with h1 | h1
    · exact hy d h1
    · exact h d (List.mem_append_right _ (List.mem_append_right _ h1))
theorem bd_in {pre zs post : List Nat} (h : ∀ d ∈ pre ++ (zs ++ post), d < B64) : ∀ d ∈ zs, d < B64 :=
  fun d hd => h d (List.mem_append_right _ (List.mem_append_left _ hd))
/-- writing a word in the middle -/
theorem set_mid {α : Type} {pre zs post : List α} {k n : Nat} {v : α} (ho : pre.length = n) (h : k < zs.length) : (pre ++ (zs ++ post)).set (n + k) v = pre ++ (zs.set k v ++ post) := by
  subst ho
  rw [List.set_append, if_neg (by omega), Nat.add_sub_cancel_left, set_left h]
theorem shl_nat (x r : Nat) : IntKind.u64.wrap ((x : Int) * 2 ^ r) = ((x * 2 ^ r % B64 : Nat) : Int) := by
  rw [show (x : Int) * 2 ^ r = ((x * 2 ^ r : Nat) : Int) from by simp [Int.natCast_mul, Int.natCast_pow], IntKind.wrap_u64]
  generalize x * 2 ^ r = q
  simp only [B64]; omega
theorem set_take_top {xs : List Nat} {k d : Nat} (h : k < xs.length) : (xs.take (k + 1)).set k d = xs.take k ++ [d] := by
  rw [take_snoc' h, List.set_append, if_neg (by simp; omega)]
  simp [Nat.min_eq_left (Nat.le_of_lt h)]
/-- x << s | y >> r -/
theorem or_shl {x y s r : Nat} (hy : y < 18446744073709551616) (h : s + r = 64) :
    bits .or .u64 (IntKind.u64.wrap ((x : Int) * 2 ^ s)) ((y : Int) / 2 ^ r) = ((x * 2 ^ s % B64 + y / 2 ^ r : Nat) : Int) := by
  have hb := B64_split h
  have h3 : y / 2 ^ r < 2 ^ s := by
    rw [Nat.div_lt_iff_lt_mul (Nat.pow_pos (by decide)), ← hb]; exact hy
  have h4 : x * 2 ^ s % B64 % 2 ^ s = 0 := by
    rw [hb, Nat.mod_mul_right_mod]; simp
  have h5 : y / 2 ^ r < 18446744073709551616 := Nat.lt_of_le_of_lt (Nat.div_le_self _ _) hy
  rw [shl_nat, shr_nat, u64_or_nat _ _ (Nat.mod_lt _ (by decide)) h5, Nat.or_comm, or_add_low h3 h4, Nat.add_comm]
/-- the words written so far, the upper ones, in a shift to the left -/
structure LshInv (s r : Nat) (xs : List Nat) (i : Nat) (top : List Nat) (c : Nat) : Prop where
  len : i + 1 + top.length = xs.length
  bd : ∀ d ∈ top, d < B64
  eq : val B64 top + B64 ^ top.length * c = val B64 (xs.drop (i + 1)) * 2 ^ s + xs.getD i 0 / 2 ^ r
theorem LshInv.start {s r : Nat} {xs : List Nat} (h0 : 0 < xs.length) : LshInv s r xs (xs.length - 1) [] (xs.getD (xs.length - 1) 0 / 2 ^ r) :=
  ⟨by simp; omega, by simp, by rw [show xs.length - 1 + 1 = xs.length from by omega, List.drop_length]; simp [val]⟩
theorem shl_split {x s r : Nat} (h : s + r = 64) : x * 2 ^ s % B64 + B64 * (x / 2 ^ r) = x * 2 ^ s := by
  have hb := B64_split h
  have : x * 2 ^ s / B64 = x / 2 ^ r := by
    rw [hb, Nat.mul_comm x, Nat.mul_div_mul_left _ _ (Nat.pow_pos (by decide))]
  rw [← this]; exact Nat.mod_add_div _ _
theorem lsh_arith {T P c V S q m x y B : Nat} (e : T + P * c = V * S + q) (h : m + B * q = x * S) : m + y + B * T + P * B * c = (x + B * V) * S + y := by
  have e3 : B * (T + P * c) = B * (V * S + q) := by rw [e]
  have e4 : P * B * c = B * (P * c) := by rw [Nat.mul_comm P, Nat.mul_assoc]
  have e5 : (x + B * V) * S = x * S + B * (V * S) := by rw [Nat.add_mul, Nat.mul_assoc]
  rw [Nat.mul_add, Nat.mul_add] at e3
  rw [e4, e5]; omega
theorem LshInv.step {s r i c x y : Nat} {xs top : List Nat} (h : LshInv s r xs (i + 1) top c) (hr : s + r = 64) (hx : xs.getD (i + 1) 0 = x) (hy : xs.getD i 0 = y) (hyb : y < B64) :
    LshInv s r xs i ((x * 2 ^ s % B64 + y / 2 ^ r) :: top) c := by
  have hb := B64_split hr
  have h3 : y / 2 ^ r < 2 ^ s := by
    rw [Nat.div_lt_iff_lt_mul (Nat.pow_pos (by decide)), ← hb]; exact hyb
  refine ⟨by have := h.len; simp; omega, fun d hd => ?_, ?_⟩
  · rcases List.mem_cons.1 hd with rfl | hd
    · have e : x * 2 ^ s % B64 = x * 2 ^ s % (2 ^ s * 2 ^ r) := by rw [← hb]
      rw [e, Nat.mul_comm x, Nat.mul_mod_mul_left, hb]
      have : x % 2 ^ r < 2 ^ r := Nat.mod_lt _ (Nat.pow_pos (by decide))
      calc 2 ^ s * (x % 2 ^ r) + y / 2 ^ r < 2 ^ s * (x % 2 ^ r) + 2 ^ s := by omega
        _ = 2 ^ s * (x % 2 ^ r + 1) := by rw [Nat.mul_add, Nat.mul_one]
        _ ≤ 2 ^ s * 2 ^ r := Nat.mul_le_mul_left _ this
    · exact h.bd d hd
  · have e := h.eq
    rw [hx] at e
    have e2 := drop_val' B64 xs (i + 1)
    rw [hx] at e2
    rw [hy, e2]
    simp only [val, List.length_cons, Nat.pow_succ]
    exact lsh_arith e (shl_split hr)
theorem LshInv.done {s r c x : Nat} {xs top : List Nat} (h : LshInv s r xs 0 top c) (hr : s + r = 64) (hx : xs.getD 0 0 = x) :
    (x * 2 ^ s % B64 :: top).length = xs.length ∧ (∀ d ∈ x * 2 ^ s % B64 :: top, d < B64) ∧ val B64 (x * 2 ^ s % B64 :: top) + B64 ^ xs.length * c = val B64 xs * 2 ^ s := by
  refine ⟨by have := h.len; simp; omega, fun d hd => ?_, ?_⟩
  · rcases List.mem_cons.1 hd with rfl | hd
    · exact Nat.mod_lt _ (by decide)
    · exact h.bd d hd
  · have e := h.eq
    rw [hx] at e
    have e2 := drop_val' B64 xs 0
    rw [hx, List.drop_zero] at e2
    have hl := h.len
    rw [e2, show xs.length = top.length + 1 from by omega]
    simp only [val, Nat.pow_succ]
    exact lsh_arith (y := 0) e (shl_split hr)

set_option maxHeartbeats 2000000 in
set_option maxRecDepth 100000 in
theorem lshVU_calls (A : Option Addr) (n c cx g o s t base : Nat) (xs pre zs post : List Nat) (w : World) (hn : xs.length = n) (hA : u64.Row t w base A xs) (hg : Blk w g 163 (i64s (pre ++ (zs ++ post)))) (hz : zs.length = n) (hpo : pre.length = o) (hzb : ∀ d ∈ pre ++ (zs ++ post), d < B64)
    (hs0 : 0 < s) (hs : s < 64) (hn0 : 0 < n) (hnb : n ≤ 1099511627776) (hob : o ≤ 1099511627776) (hne : ∀ a, A = some a → a.block < g) :
    Calls Tryz.prog 113 #[.slice (some ⟨g, o, none⟩) n c, .slice A n cx, .int .u64 s] w fun e w' => ∃ (v : Nat) (ys : List Nat), e = .returned (.int .u64 v) ∧ Blk w' g 163 (i64s (pre ++ (ys ++ post))) ∧ ys.length = n ∧ (∀ d ∈ ys, d < B64) ∧ val B64 ys + B64 ^ n * v = val B64 xs * 2 ^ s ∧ v < B64 ∧ Below g w w' := by
  subst hn
  obtain ⟨r, hr⟩ : ∃ r, s + r = 64 := ⟨64 - s, by omega⟩
  have hrl : r < 64 := by omega
  have h1 := and63 hs
  have h2 : (64 : Int) - (s : Int) = (r : Int) := by omega
  have h3 := and63 hrl
  obtain ⟨a, x0, ha, hx0, hx0b, hx0e⟩ := u64at0 hA hn0
  subst ha
  have hab := hne a rfl
  obtain ⟨a', x1, ha', hx1, hx1b, hx1e⟩ := u64at (i := xs.length - 1) hA (by omega)
  cases ha'
  have hlz : ((xs.length : Int) == 0) = false := by simp; intro e; rw [e] at hn0; simp at hn0
  have hsz : ((s : Int) == 0) = false := by simp; omega
  have hl1 : (xs.length : Int) - 1 = ((xs.length - 1 : Nat) : Int) := by omega
  have HV := Lib.hid (shr_nat x1 r)
  have hI0 := LshInv.start (s := s) (r := r) hn0
  rw [hx1e.out] at hI0
  have HI0 := Lib.hid hI0
  clear hI0
  have HZB := Lib.hid hzb
  clear hzb
  go_enter Tryz.func113, Tryz.ntmps113
  go_wp2
  go_loopw [8] (fun i wr => ∃ (k : Nat) (top : List Nat), i = .int .i64 (k : Int) ∧ k < xs.length ∧ Hid (LshInv s r xs k top (x1 / 2 ^ r)) ∧ Hid (Blk wr g 163 (i64s (pre ++ ((zs.take (k + 1) ++ top) ++ post)))) ∧ Hid (Below g w wr)) (fun i _ => (intOf i).toNat)
  case atStart => exact ⟨xs.length - 1, [], by go_num, by omega, HI0.out, by rw [Hid, show xs.length - 1 + 1 = zs.length from by omega, List.take_length, List.append_nil]; exact hg, Below.refl _ _⟩
  case round =>
    obtain ⟨k, top, rfl, hk, hI, hZ, hW⟩ := hrel
    have hyl := hI.out.len
    have hbb := bd_mid HZB.out (ys := zs.take (k + 1) ++ top) (fun d hd => by
      rcases List.mem_append.1 hd with h | h
      · exact bd_in HZB.out d (List.mem_of_mem_take h)
      · exact hI.out.bd d h)
    obtain ⟨z, hz1, hz2, _, _⟩ := hZ.out.at64 (i := o + k) (by simp; omega) hbb
    have HBB := Lib.hid hbb
    clear hbb
    obtain ⟨a', x, ha', hcx, hxb, hxe⟩ := u64at (i := k) hA (by omega)
    cases ha'
    replace hcx := (hW.out.cell (by rw [Addr.add_block]; exact hab)).trans hcx
    have hne1 : ¬ a.block = g := by omega
    have hne2 : ¬ g = a.block := by omega
    by_cases hlt : 0 < k
    · obtain ⟨j, rfl⟩ : ∃ j, k = j + 1 := ⟨k - 1, by omega⟩
      obtain ⟨a', y, ha', hcy, hyb, hye⟩ := u64at (i := j) hA (by omega)
      cases ha'
      replace hcy := (hW.out.cell (by rw [Addr.add_block]; exact hab)).trans hcy
      have hcx2 := cell_succ hcx (by omega)
      have hw1 : IntKind.i64.wrap (((j + 1 : Nat) : Int) - 1) = (j : Int) := by rw [show ((j + 1 : Nat) : Int) - 1 = j from by omega]; exact IntWalk.i64_in _ (by omega)
      have hw2 : IntKind.i64.wrap (j : Int) = (j : Int) := IntWalk.i64_in _ (by omega)
      have hi1 : (0 : Int) ≤ (j : Int) := by omega
      have hi2 : (j : Int) < (xs.length : Int) := by omega
      have hi4 : ((j + 1 : Nat) : Int) < (xs.length : Int) := by omega
      have hi3 : (0 : Int) ≤ ((j + 1 : Nat) : Int) := by omega
      have hi5 : (0 : Int) ≤ (j : Int) + 1 := by omega
      have hi6 : (j : Int) + 1 < (xs.length : Int) := by omega
      have hi7 : ((j : Int) + 1).toNat = j + 1 := by omega
      have hw3 : IntKind.i64.wrap ((j : Int) + 1 - 1) = (j : Int) := by rw [show (j : Int) + 1 - 1 = j from by omega]; exact hw2
      go_wp2
      go_region_held3 (fun w' => w'.cell? (a.add j) = some (.int .u64 y) ∧ w'.cell? ⟨a.block, a.off + (j + 1), none⟩ = some (.int .u64 x)) (first | exact ⟨cell_far_drew (by rw [Addr.add_block]; exact hne1) hcy, cell_far_drew hne1 hcx2⟩ | ((try dsimp only); (repeat' apply And.intro) <;> go_keep)) (fail)
      go_wp2
      go_roundw
      case rel =>
        have hst := LshInv.step hI.out hr hxe.out hye.out hyb
        have hb := hZ.out.set64 (o + (j + 1)) _ _ (or_shl (x := x) hyb hr)
        rw [set_mid hpo (by simp; omega)] at hb
        have e : (zs.take (j + 1 + 1) ++ top).set (j + 1) (x * 2 ^ s % B64 + y / 2 ^ r) = zs.take (j + 1) ++ ((x * 2 ^ s % B64 + y / 2 ^ r) :: top) := by
          rw [set_left (by simp; omega), set_take_top (by omega), List.append_assoc]; rfl
        rw [e] at hb
        exact ⟨j, _, rfl, by omega, hst, hb, (hW.out.setCell (Nat.le_refl _) _).drew⟩
      case measure => simp [intOf]
    · obtain rfl : k = 0 := by omega
      have hst := hI.out.done hr hx0e.out
      have hb := hZ.out.set64 o _ _ (shl_nat x0 s)
      have e : (pre ++ ((zs.take (0 + 1) ++ top) ++ post)).set o (x0 * 2 ^ s % B64) = pre ++ ((x0 * 2 ^ s % B64 :: top) ++ post) := by
        have := set_mid (post := post) (v := x0 * 2 ^ s % B64) (k := 0) (zs := zs.take (0 + 1) ++ top) hpo (by simp; omega)
        simp only [Nat.add_zero, Nat.zero_add] at this ⊢
        rw [this, set_left (by simp; omega)]
        obtain ⟨q, qs, rfl⟩ : ∃ q qs, zs = q :: qs := by cases zs with | nil => simp at hz; omega | cons q qs => exact ⟨q, qs, rfl⟩
        simp
      rw [e] at hb
      have HST := Lib.hid hst
      have HB := Lib.hid hb
      clear hst hb
      have hx0' := (hW.out.cell hab).trans hx0
      simp only [Nat.add_zero] at hz1 hz2
      go_wp2
      go_ret
      exact ⟨x1 / 2 ^ r, _, by rw [← HV.out]; rfl, HB.out, HST.out.1, HST.out.2.1, HST.out.2.2, Nat.lt_of_le_of_lt (Nat.div_le_self _ _) hx1b, hW.out.setCell (Nat.le_refl _) _⟩
end Go.Proofs.YtcfejobdgiiihaaGreatDoor

namespace Go.Proofs.YtcfejobdgiiihaaGreatDoor
open Go.RowKit

set_option maxHeartbeats 400000 in
theorem badd_calls (x y c s b : Nat) (hc : c = 0 ∨ c = 1) (hs : s = (x + y + c) % 2 ^ 64) (hb : b = (x + y + c) / 2 ^ 64) (w : World) : Calls Tryz.prog 139 #[.int .u64 x, .int .u64 y, .int .u64 c] w fun e w' => e = .returned (.tuple #[.int .u64 s, .int .u64 b]) ∧ w = w' := by
  have h := fun w => run_add64 x y c hc w
  rw [← hs, ← hb] at h
  clear hs hb
  go_enter Tryz.func139, Tryz.ntmps139
  go_wp2
  go_ret2
  exact ⟨rfl, rfl⟩
set_option maxHeartbeats 400000 in
theorem bsub_calls (x y c s b : Nat) (hc : c = 0 ∨ c = 1) (hs : s = (x + 2 ^ 64 - y - c) % 2 ^ 64) (hb : b = if x < y + c then 1 else 0) (w : World) : Calls Tryz.prog 133 #[.int .u64 x, .int .u64 y, .int .u64 c] w fun e w' => e = .returned (.tuple #[.int .u64 s, .int .u64 b]) ∧ w = w' := by
  have h := fun w => run_sub64 x y c hc w
  rw [← hs, ← hb] at h
  clear hs hb
  go_enter Tryz.func133, Tryz.ntmps133
  go_wp2
  go_ret2
  exact ⟨rfl, rfl⟩
/-- but for one block all stays -/
structure Only (g : Nat) (w w' : World) : Prop where
  below : Below g w w'
  size : w'.heap.size = w.heap.size
  block : ∀ k, k ≠ g → w'.heap[k]? = w.heap[k]?
theorem Only.refl (g : Nat) (w : World) : Only g w w := ⟨Below.refl _ _, rfl, fun _ _ => rfl⟩
theorem Only.setCell {g : Nat} {w W : World} (h : Only g w W) {p : Addr} (hp : p.block = g) (u : Value) : Only g w (W.setCell p u) :=
  ⟨h.below.setCell (Nat.le_of_eq hp.symm) _, (by simp [World.setCell, h.size]), fun k hk => (Below.heap_setCell W p u k (by rw [hp]; exact hk)).trans (h.block k hk)⟩
theorem Only.drewN {g : Nat} {w W : World} (h : Only g w W) (n : Nat) : Only g w (W.drewN n) := ⟨below_drewN h.below n, h.size, h.block⟩
theorem Only.drew {g : Nat} {w W : World} (h : Only g w W) : Only g w W.drew := ⟨h.below.drew, h.size, h.block⟩
theorem Only.setRow {g : Nat} {w W : World} (h : Only g w W) (cs : Array Value) : Only g w (W.setRow g cs) :=
  ⟨below_setRow h.below (Nat.le_refl _) cs, (by simp [World.setRow, h.size]), fun k hk => (setRow_other W g k cs hk).trans (h.block k hk)⟩
theorem Only.cell {g : Nat} {w W : World} (h : Only g w W) {p : Addr} (hp : p.block ≠ g) : W.cell? p = w.cell? p := World.cell?_of_block (h.block _ hp)
theorem Only.trans {g : Nat} {w1 w2 w3 : World} (h : Only g w1 w2) (h' : Only g w2 w3) : Only g w1 w3 :=
  ⟨h.below.trans h'.below, h'.size.trans h.size, fun k hk => (h'.block k hk).trans (h.block k hk)⟩
theorem Only.after {g B : Nat} {w1 w2 w3 : World} (h : Below B w1 w2) (hB : B ≤ g) (h' : Only g w2 w3) : Below B w1 w3 := h.trans (h'.below.mono hB)
/-- where a row is read from while a block is written: it lies elsewhere, or just there -/
def Src (w : World) (g : Nat) (pre zs post : List Nat) (A : Option Addr) (xs : List Nat) : Prop :=
  ∀ (w' : World) (ys : List Nat) (k : Nat), ys.length = k → Blk w' g 163 (i64s (pre ++ ((ys ++ zs.drop k) ++ post))) → Only g w w' → ∀ j, k ≤ j → j < xs.length → ∃ a, A = some a ∧ w'.cell? (a.add j) = some (.int .u64 (xs.getD j 0 : Nat))
theorem Src.away {w : World} {g : Nat} {pre zs post xs : List Nat} {A : Option Addr} {t base : Nat} (h : u64.Row t w base A xs) (hne : ∀ a, A = some a → a.block ≠ g) : Src w g pre zs post A xs := by
  intro w' ys k _ _ hW j _ hj
  obtain ⟨a, x, ha, hc, _, hx⟩ := u64at h hj
  exact ⟨a, ha, by rw [hx.out]; exact (hW.cell (by rw [Addr.add_block]; exact hne a ha)).trans hc⟩
theorem Src.here {w : World} {g o : Nat} {pre zs post xs : List Nat} {n : Nat} (ho : pre.length = o) (hx : xs = zs.take n) : Src w g pre zs post (some ⟨g, o, none⟩) xs := by
  intro w' ys k hk hb _ j hkj hj
  refine ⟨_, rfl, ?_⟩
  rw [show (⟨g, o, none⟩ : Addr).add j = ⟨g, o + j, none⟩ from by unfold Addr.add; split <;> simp_all, hb.cell]
  subst hx ho hk
  rw [List.length_take] at hj
  have e : (pre ++ ((ys ++ zs.drop ys.length) ++ post))[pre.length + j]? = zs[j]? := by
    rw [List.getElem?_append_right (by omega), Nat.add_sub_cancel_left, List.getElem?_append_left (by simp; omega), List.getElem?_append_right hkj, List.getElem?_drop, Nat.add_sub_cancel' hkj]
  have e2 : (i64s (pre ++ ((ys ++ zs.drop ys.length) ++ post)))[pre.length + j]? = (zs[j]?).map fun x => Value.int .u64 (x : Nat) := by
    unfold i64s; rw [List.getElem?_map, e]
  rw [e2, List.getElem?_eq_getElem (by omega)]
  simp [List.getD_eq_getElem?_getD, List.getElem?_take, show j < n by omega, show j < zs.length by omega]
/-- after k words: the words of the sum, and what is carried -/
structure AddInv (xs ys : List Nat) (k : Nat) (zs : List Nat) (c : Nat) : Prop where
  len : zs.length = k
  bd : ∀ d ∈ zs, d < B64
  c1 : c = 0 ∨ c = 1
  eq : val B64 zs + B64 ^ k * c = val B64 (xs.take k) + val B64 (ys.take k)
theorem AddInv.step {xs ys zs : List Nat} {k c x y : Nat} (h : AddInv xs ys k zs c) (hk : k < xs.length) (hk2 : k < ys.length) (hx : xs.getD k 0 = x) (hy : ys.getD k 0 = y) (hxb : x < B64) (hyb : y < B64) :
    AddInv xs ys (k + 1) (zs ++ [(x + y + c) % 2 ^ 64]) ((x + y + c) / 2 ^ 64) := by
  obtain ⟨h1, h2, h3, h4⟩ := h
  refine ⟨by simp [h1], fun d hd => ?_, ?_, ?_⟩
  · rcases List.mem_append.1 hd with hd | hd
    · exact h2 d hd
    · simp at hd; subst hd; exact Nat.mod_lt _ (by decide)
  · simp only [B64] at hxb hyb; omega
  · rw [val_take B64 hk, val_take B64 hk2, val_append, h1, hx, hy]
    simp only [val, Nat.mul_zero, Nat.add_zero]
    have := digit_step (B64 ^ k) B64 (x + y + c)
    rw [show (2 : Nat) ^ 64 = B64 from rfl, Nat.pow_succ]
    rw [Nat.mul_add, Nat.mul_add] at this
    omega
/-- after k words: the words of the difference, and what is borrowed -/
structure SubInv (xs ys : List Nat) (k : Nat) (zs : List Nat) (c : Nat) : Prop where
  len : zs.length = k
  bd : ∀ d ∈ zs, d < B64
  c1 : c = 0 ∨ c = 1
  eq : val B64 zs + val B64 (ys.take k) = val B64 (xs.take k) + B64 ^ k * c
theorem SubInv.step {xs ys zs : List Nat} {k c x y : Nat} (h : SubInv xs ys k zs c) (hk : k < xs.length) (hk2 : k < ys.length) (hx : xs.getD k 0 = x) (hy : ys.getD k 0 = y) (hxb : x < B64) (hyb : y < B64) :
    SubInv xs ys (k + 1) (zs ++ [(x + 2 ^ 64 - y - c) % 2 ^ 64]) (if x < y + c then 1 else 0) := by
  obtain ⟨h1, h2, h3, h4⟩ := h
  refine ⟨by simp [h1], fun d hd => ?_, ?_, ?_⟩
  · rcases List.mem_append.1 hd with hd | hd
    · exact h2 d hd
    · simp at hd; subst hd; exact Nat.mod_lt _ (by decide)
  · split <;> simp
  · rw [val_take B64 hk, val_take B64 hk2, val_append, h1, hx, hy]
    simp only [val]
    rw [Nat.mul_zero, Nat.add_zero]
    have hd : (x + 2 ^ 64 - y - c) % 2 ^ 64 + (y + c) = x + B64 * (if x < y + c then 1 else 0) := by
      simp only [B64] at *
      split <;> omega
    have := congrArg (B64 ^ k * ·) hd
    simp only [Nat.mul_add] at this
    rw [show B64 ^ (k + 1) = B64 ^ k * B64 from Nat.pow_succ .., Nat.mul_assoc]
    generalize (x + 2 ^ 64 - y - c) % 2 ^ 64 = q at *
    omega
theorem set_at (pre ys : List Nat) (k x : Nat) (zs post : List Nat) (o n : Nat) (ho : pre.length = o) (hk : ys.length = k) (hz : zs.length = n) (hn : k < n) : (pre ++ ((ys ++ zs.drop k) ++ post)).set (o + k) x = pre ++ (((ys ++ [x]) ++ zs.drop (k + 1)) ++ post) := by
  rw [set_mid ho (by simp; omega)]
  congr 2
  rw [List.set_append, if_neg (by omega), hk, Nat.sub_self, List.drop_eq_getElem_cons (by omega), List.append_assoc]
  rfl
theorem bd_at {pre zs post ys : List Nat} (h : ∀ d ∈ pre ++ (zs ++ post), d < B64) (hy : ∀ d ∈ ys, d < B64) (k : Nat) : ∀ d ∈ pre ++ ((ys ++ zs.drop k) ++ post), d < B64 :=
  bd_mid h fun d hd => by
    rcases List.mem_append.1 hd with hd | hd
    · exact hy d hd
    · exact bd_in h d (List.mem_of_mem_drop hd)

set_option maxHeartbeats 2000000 in
set_option maxRecDepth 100000 in
theorem addVV_calls (A B : Option Addr) (n c cx cy g o : Nat) (xs ys pre zs post : List Nat) (w : World) (hn : xs.length = n) (hm : ys.length = n) (hg : Blk w g 163 (i64s (pre ++ (zs ++ post)))) (hz : zs.length = n) (hpo : pre.length = o) (hzb : ∀ d ∈ pre ++ (zs ++ post), d < B64)
    (hA : Src w g pre zs post A xs) (hB : Src w g pre zs post B ys) (hxb : ∀ d ∈ xs, d < B64) (hyb : ∀ d ∈ ys, d < B64) (hnb : n ≤ 1099511627776) (hob : o ≤ 1099511627776) :
    Calls Tryz.prog 111 #[.slice (some ⟨g, o, none⟩) n c, .slice A n cx, .slice B n cy] w fun e w' => ∃ (v : Nat) (rs : List Nat), e = .returned (.int .u64 v) ∧ Blk w' g 163 (i64s (pre ++ (rs ++ post))) ∧ AddInv xs ys n rs v ∧ Only g w w' := by
  subst hn
  have HZB := Lib.hid hzb
  have HXB := Lib.hid hxb
  have HYB := Lib.hid hyb
  have HA := Lib.hid hA
  have HB := Lib.hid hB
  clear hzb hxb hyb hA hB
  go_enter Tryz.func111, Tryz.ntmps111
  go_wp2
  go_loopw [6, 25] (fun cv i wr => ∃ (k cc : Nat) (rs : List Nat), i = .int .i64 k ∧ cv = .int .u64 cc ∧ k ≤ xs.length ∧ Hid (AddInv xs ys k rs cc) ∧ Hid (Blk wr g 163 (i64s (pre ++ ((rs ++ zs.drop k) ++ post)))) ∧ Hid (Only g w wr)) (fun _ i _ => xs.length - (intOf i).toNat)
  case atStart => exact ⟨0, 0, [], rfl, rfl, by omega, ⟨rfl, by simp, .inl rfl, by simp [val]⟩, hg, Only.refl _ _⟩
  case round =>
    obtain ⟨k, cc, rs, rfl, rfl, hk, hI, hZ, hW⟩ := hrel
    have hrl := hI.out.len
    by_cases hlt : k < xs.length
    · have hbb := bd_at HZB.out hI.out.bd k
      obtain ⟨z, hz1, hz2, _, _⟩ := hZ.out.at64 (i := o + k) (by simp; omega) hbb
      have HBB := Lib.hid hbb
      clear hbb
      obtain ⟨a, ha, hca⟩ := HA.out wr rs k hrl hZ.out hW.out k (Nat.le_refl _) hlt
      obtain ⟨b, hb, hcb⟩ := HB.out wr rs k hrl hZ.out hW.out k (Nat.le_refl _) (by omega)
      subst ha hb
      have hxk := getD_mem_lt HXB.out hlt
      have hyk := getD_mem_lt HYB.out (i := k) (by omega)
      obtain ⟨x, hx⟩ : ∃ x, xs.getD k 0 = x := ⟨_, rfl⟩
      obtain ⟨y, hy⟩ : ∃ y, ys.getD k 0 = y := ⟨_, rfl⟩
      rw [hx] at hca hxk
      rw [hy] at hcb hyk
      have HX := Lib.hid hx
      have HY := Lib.hid hy
      clear hx hy
      have hi1 : (0 : Int) ≤ (k : Int) := by omega
      have hi2 : (k : Int) < (xs.length : Int) := by omega
      obtain ⟨s, hs⟩ : ∃ s, s = (x + y + cc) % 2 ^ 64 := ⟨_, rfl⟩
      obtain ⟨b', hb'⟩ : ∃ b', b' = (x + y + cc) / 2 ^ 64 := ⟨_, rfl⟩
      have HC := Lib.hid (fun W => badd_calls x y cc s b' hI.out.c1 hs hb' W)
      have hst := AddInv.step hI.out hlt (by omega) HX.out HY.out hxk hyk
      rw [← hs, ← hb'] at hst
      have HST := Lib.hid hst
      clear hst hs hb'
      go_wp2_with fail
      go_quiet ((go_at_call 139; exact Calls.quiet_of_same ((HC.out _).mono (fun _ _ h => ⟨h.1, h.2.symm⟩))))
      go_wp2
      go_roundw
      case rel =>
        have hb := hZ.out.set64 (o + k) s _ rfl
        rw [set_at pre rs k _ zs post o xs.length hpo hrl hz hlt] at hb
        exact ⟨k + 1, _, _, by go_num, rfl, by omega, HST.out, hb, (hW.out.drewN _).setCell rfl _⟩
      case measure => simp [intOf]; omega
    · obtain rfl : k = xs.length := by omega
      have hZ' := hZ.out
      rw [List.drop_of_length_le (by omega), List.append_nil] at hZ'
      have HZ' := Lib.hid hZ'
      clear hZ'
      go_wp2
      go_ret
      exact ⟨cc, rs, rfl, HZ'.out, hI.out, hW.out⟩
set_option maxHeartbeats 2000000 in
set_option maxRecDepth 100000 in
theorem subVV_calls (A B : Option Addr) (n c cx cy g o : Nat) (xs ys pre zs post : List Nat) (w : World) (hn : xs.length = n) (hm : ys.length = n) (hg : Blk w g 163 (i64s (pre ++ (zs ++ post)))) (hz : zs.length = n) (hpo : pre.length = o) (hzb : ∀ d ∈ pre ++ (zs ++ post), d < B64)
    (hA : Src w g pre zs post A xs) (hB : Src w g pre zs post B ys) (hxb : ∀ d ∈ xs, d < B64) (hyb : ∀ d ∈ ys, d < B64) (hnb : n ≤ 1099511627776) (hob : o ≤ 1099511627776) :
    Calls Tryz.prog 112 #[.slice (some ⟨g, o, none⟩) n c, .slice A n cx, .slice B n cy] w fun e w' => ∃ (v : Nat) (rs : List Nat), e = .returned (.int .u64 v) ∧ Blk w' g 163 (i64s (pre ++ (rs ++ post))) ∧ SubInv xs ys n rs v ∧ Only g w w' := by
  subst hn
  have HZB := Lib.hid hzb
  have HXB := Lib.hid hxb
  have HYB := Lib.hid hyb
  have HA := Lib.hid hA
  have HB := Lib.hid hB
  clear hzb hxb hyb hA hB
  go_enter Tryz.func112, Tryz.ntmps112
  go_wp2
  go_loopw [6, 25] (fun cv i wr => ∃ (k cc : Nat) (rs : List Nat), i = .int .i64 k ∧ cv = .int .u64 cc ∧ k ≤ xs.length ∧ Hid (SubInv xs ys k rs cc) ∧ Hid (Blk wr g 163 (i64s (pre ++ ((rs ++ zs.drop k) ++ post)))) ∧ Hid (Only g w wr)) (fun _ i _ => xs.length - (intOf i).toNat)
  case atStart => exact ⟨0, 0, [], rfl, rfl, by omega, ⟨rfl, by simp, .inl rfl, by simp [val]⟩, hg, Only.refl _ _⟩
  case round =>
    obtain ⟨k, cc, rs, rfl, rfl, hk, hI, hZ, hW⟩ := hrel
    have hrl := hI.out.len
    by_cases hlt : k < xs.length
    · have hbb := bd_at HZB.out hI.out.bd k
      obtain ⟨z, hz1, hz2, _, _⟩ := hZ.out.at64 (i := o + k) (by simp; omega) hbb
      have HBB := Lib.hid hbb
      clear hbb
      obtain ⟨a, ha, hca⟩ := HA.out wr rs k hrl hZ.out hW.out k (Nat.le_refl _) hlt
      obtain ⟨b, hb, hcb⟩ := HB.out wr rs k hrl hZ.out hW.out k (Nat.le_refl _) (by omega)
      subst ha hb
      have hxk := getD_mem_lt HXB.out hlt
      have hyk := getD_mem_lt HYB.out (i := k) (by omega)
      obtain ⟨x, hx⟩ : ∃ x, xs.getD k 0 = x := ⟨_, rfl⟩
      obtain ⟨y, hy⟩ : ∃ y, ys.getD k 0 = y := ⟨_, rfl⟩
      rw [hx] at hca hxk
      rw [hy] at hcb hyk
      have HX := Lib.hid hx
      have HY := Lib.hid hy
      clear hx hy
      have hi1 : (0 : Int) ≤ (k : Int) := by omega
      have hi2 : (k : Int) < (xs.length : Int) := by omega
      obtain ⟨s, hs⟩ : ∃ s, s = (x + 2 ^ 64 - y - cc) % 2 ^ 64 := ⟨_, rfl⟩
      obtain ⟨b', hb'⟩ : ∃ b', b' = if x < y + cc then 1 else 0 := ⟨_, rfl⟩
      have HC := Lib.hid (fun W => bsub_calls x y cc s b' hI.out.c1 hs hb' W)
      have hst := SubInv.step hI.out hlt (by omega) HX.out HY.out hxk hyk
      rw [← hs, ← hb'] at hst
      have HST := Lib.hid hst
      clear hst hs hb'
      go_wp2_with fail
      go_quiet ((go_at_call 133; exact Calls.quiet_of_same ((HC.out _).mono (fun _ _ h => ⟨h.1, h.2.symm⟩))))
      go_wp2
      go_roundw
      case rel =>
        have hb := hZ.out.set64 (o + k) s _ rfl
        rw [set_at pre rs k _ zs post o xs.length hpo hrl hz hlt] at hb
        exact ⟨k + 1, _, _, by go_num, rfl, by omega, HST.out, hb, (hW.out.drewN _).setCell rfl _⟩
      case measure => simp [intOf]; omega
    · obtain rfl : k = xs.length := by omega
      have hZ' := hZ.out
      rw [List.drop_of_length_le (by omega), List.append_nil] at hZ'
      have HZ' := Lib.hid hZ'
      clear hZ'
      go_wp2
      go_ret
      exact ⟨cc, rs, rfl, HZ'.out, hI.out, hW.out⟩
end Go.Proofs.YtcfejobdgiiihaaGreatDoor

namespace Go.Proofs.YtcfejobdgiiihaaGreatDoor
open Go.RowKit

theorem Blk.setRow {w : World} {b t : Nat} {cs : List Value} (h : Blk w b t cs) (ds : List Value) : Blk (w.setRow b ds.toArray) b t ds := setRow_heap w b _ _ t _ h
theorem i64s_one (xs : List Nat) : ∀ v ∈ i64s xs, v.oneCell' = true := by
  intro v hv
  obtain ⟨x, _, rfl⟩ := List.mem_map.1 hv
  rfl
theorem copy64 {w : World} {g : Nat} {Z : List Nat} (hb : Blk w g 163 (i64s Z)) (o n cz cx dT sT ty : Nat) (hd : dT = 147 ∨ dT = 146) (A : Option Addr) (xs : List Nat) (hx : xs.length = n)
    (hs : ∀ j, j < n → ∃ a, A = some a ∧ w.cell? (a.add j) = some (.int .u64 (xs.getD j 0 : Nat))) (hfit : o + n ≤ Z.length) (p : Option Addr) (hp : p = some ⟨g, o, none⟩ ∨ n = 0) :
    (Builtin.copy_ #[dT, sT] ty #[.slice p n cz, .slice A n cx]).run Tryz.prog w = .ok (.int .i64 n) (w.setRow g (i64s (Z.take o ++ (xs ++ Z.drop (o + n)))).toArray) := by
  have hu : Tryz.prog.underlying dT = some (.slice 163) := by rcases hd with rfl | rfl <;> kernel_rfl
  have hsz : (Tryz.prog.info? 163).map (·.size) = some 1 := by kernel_rfl
  rcases Nat.eq_zero_or_pos n with h0 | h0
  · subst h0
    obtain rfl := List.eq_nil_of_length_eq_zero hx
    rw [List.nil_append, Nat.add_zero, List.take_append_drop, setRow_self w g (i64s Z).toArray 163 (0, 0) hb]
    exact run_copy_none (P := Tryz.prog) w dT sT ty _ p A 0 cz 0 cx hu hsz rfl
  · obtain rfl : p = some ⟨g, o, none⟩ := by
      rcases hp with h | h
      · exact h
      · omega
    obtain ⟨a, rfl, _⟩ := hs 0 h0
    have := run_copy_row (P := Tryz.prog) w dT sT ty 163 g o n cz a n cx (i64s Z).toArray 163 (i64s xs) hu hsz hb (by simp [i64s, hx]) (fun j v hj => by
      have hjl : j < xs.length := by
        rcases Nat.lt_or_ge j xs.length with h | h
        · exact h
        · rw [List.getElem?_eq_none (by simp [i64s]; omega)] at hj; cases hj
      obtain ⟨a', ha, hc⟩ := hs j (by omega)
      cases ha
      rw [hc]
      simp [i64s, hjl] at hj
      rw [← hj]; simp [List.getD_eq_getElem?_getD, hjl]) (by simp [i64s, hx]; omega) (i64s_one xs)
    have hl : (i64s xs).length = n := by simp [i64s, hx]
    rw [hl] at this
    have e : i64s (Z.take o ++ (xs ++ Z.drop (o + n))) = (i64s Z).toArray.toList.take o ++ i64s xs ++ (i64s Z).toArray.toList.drop (o + n) := by
      simp [i64s, List.map_take, List.map_drop, hx]
    rw [e]; exact this
theorem word_info : ∃ i, Tryz.prog.info? 163 = some i ∧ i.zero = some (.int .u64 0) ∧ i.size = 1 ∧ i.bytes = 8 := by
  have h : (Tryz.prog.info? 163).map (fun i => (i.zero, i.size, i.bytes)) = some (some (.int .u64 0), 1, 8) := by kernel_rfl
  cases hi : Tryz.prog.info? 163 with
  | none => rw [hi] at h; cases h
  | some i =>
    rw [hi] at h
    injection h with h
    simp only [Prod.mk.injEq] at h
    exact ⟨i, rfl, h⟩
theorem clear64 {w : World} {g : Nat} {Z : List Nat} (hb : Blk w g 163 (i64s Z)) (n cz ty : Nat) (hfit : n ≤ Z.length) :
    (Builtin.clear_ #[147] ty #[.slice (some ⟨g, 0, none⟩) n cz]).run Tryz.prog w = .ok (.tuple #[]) (w.setRow g (i64s (List.replicate n 0 ++ Z.drop n)).toArray) := by
  have hu : Tryz.prog.underlying 147 = some (.slice 163) := by kernel_rfl
  rcases Nat.eq_zero_or_pos n with h0 | h0
  · subst h0
    rw [show List.replicate 0 0 ++ Z.drop 0 = Z from by simp, setRow_self w g (i64s Z).toArray 163 (0, 0) hb]
    simp [Builtin.clear_, run_underlying hu]
  · have hz : Builtin.zeroCells #[Value.int .u64 0] n = (i64s (List.replicate n 0)).toArray := by
      apply Array.ext'
      simp [Builtin.zeroCells, Nat.mod_one, List.map_const', i64s, List.map_replicate]
    have := run_storeCells_at Tryz.prog g 0 163 (i64s (List.replicate n 0)) 0 (i64s Z).toArray w hb (by simp [i64s]; omega) (i64s_one _)
    have e : i64s (List.replicate n 0 ++ Z.drop n) = (i64s Z).toArray.toList.take (0 + 0) ++ i64s (List.replicate n 0) ++ (i64s Z).toArray.toList.drop (0 + 0 + (i64s (List.replicate n 0)).length) := by
      simp [i64s, List.map_drop]
    rw [← e] at this
    obtain ⟨k, rfl⟩ : ∃ k, n = k + 1 := ⟨n - 1, by omega⟩
    obtain ⟨i, hi, hi0, _⟩ := word_info
    simp [Builtin.clear_, run_underlying hu, zeroValue, typeInfo, hi, hi0, Value.cells, hz, this]

/-- what a whole number's row, where it may be written, is: nil, or a block whole -/
inductive Dest (w : World) : Value → Nat → Prop
  | nil (g : Nat) (h : w.heap.size ≤ g) : Dest w (.slice none 0 0) g
  | own {g : Nat} {Z : List Nat} {n : Nat} (hb : Blk w g 163 (i64s Z)) (hz : ∀ d ∈ Z, d < B64) (hn : n ≤ Z.length) (hl : Z.length ≤ 549755813888) : Dest w (.slice (some ⟨g, 0, none⟩) n Z.length) g

set_option maxHeartbeats 400000 in
theorem nmake_new (n : Nat) (w : World) (h0 : 0 < n) (hn : n ≤ 274877906944) (A : Option Addr) (l c : Nat) (hc : c < n) :
    Calls Tryz.prog 129 #[.slice A l c, .int .i64 n] w fun e w' => ∃ k, n ≤ k ∧ k ≤ n + 4 ∧ e = .returned (.slice (some ⟨w.heap.size, 0, none⟩) n k) ∧ w' = w.alloc (.cells (madeCells #[.int .u64 0] k) 163) := by
  rcases Nat.lt_or_ge 1 n with h1 | h1
  · obtain ⟨i, hi, hi0, hi1, hi2⟩ := word_info
    have hm := fun W => run_make (P := Tryz.prog) W 147 163 i (.int .u64 0) (by kernel_rfl) hi hi0 .i64 .i64 (n : Int) ((n : Int) + 4) (by omega) (by omega) (by rw [hi2]; omega) (by omega)
    rw [hi1] at hm
    clear hi hi0 hi1 hi2
    have e1 : ((n : Int)).toNat = n := by omega
    have e2 : ((n : Int) + 4).toNat = n + 4 := by omega
    rw [e1, e2] at hm
    simp only [Nat.mul_one] at hm
    have hn1 : ((n : Int) == 1) = false := by simp; omega
    go_enter Tryz.func129, Tryz.ntmps129
    go_wp2
    go_ret
    exact ⟨n + 4, by omega, by omega, rfl, rfl⟩
  · obtain rfl : n = 1 := by omega
    have hm := fun W => run_make_row' (P := Tryz.prog) 147 163 (.int .u64 0) 8 (by kernel_rfl) (by kernel_rfl) rfl .i64 .i64 1 (by omega) (by omega) W
    simp only [Int.natCast_one] at hm
    go_enter Tryz.func129, Tryz.ntmps129
    go_wp2
    go_ret
    exact ⟨1, by omega, by omega, rfl, rfl⟩
set_option maxHeartbeats 400000 in
theorem norm_calls (A : Option Addr) (n c t base : Nat) (xs : List Nat) (w : World) (hn : xs.length = n) (hA : u64.Row t w base A xs) (hl : n ≤ 1099511627776) (hc : n ≤ c) :
    Calls Tryz.prog 132 #[.slice A n c] w fun e w' => e = .returned (.slice A (trimLen xs n) c) ∧ w = w' := by
  subst hn
  go_enter Tryz.func132, Tryz.ntmps132
  go_wp2
  go_loop [3] (fun i => ∃ k : Nat, k ≤ xs.length ∧ i = .int .i64 k ∧ Hid (trimLen xs k = trimLen xs xs.length)) (fun i => (intOf i).toNat)
  case atStart => exact ⟨_, Nat.le_refl _, rfl, rfl⟩
  case round =>
    obtain ⟨k, hk, rfl, hT⟩ := hrel
    cases k with
    | zero =>
      go_wp2
      go_ret
      exact ⟨ret_slice (by rw [← hT.out]; rfl), rfl⟩
    | succ k =>
      obtain ⟨a, x, rfl, hca, hx, hxe⟩ := u64at hA (i := k) (by omega)
      by_cases h0 : x = 0
      · subst h0
        go_wp2
        go_round
        case rel => exact ⟨k, by omega, by go_num, (trimLen_zero hxe.out).symm.trans hT.out⟩
        case measure => simp [intOf]
      · go_wp2
        go_ret
        exact ⟨ret_slice (by rw [← hT.out, trimLen_pos (by rw [hxe.out]; exact h0)]), rfl⟩
end Go.Proofs.YtcfejobdgiiihaaGreatDoor

namespace Go.Proofs.YtcfejobdgiiihaaGreatDoor
open Go.RowKit

/-- the words of a row, one behind the other from an address on -/
def CellsAt (w : World) (a : Addr) (xs : List Nat) : Prop := ∀ j, j < xs.length → w.cell? (a.add j) = some (.int .u64 (xs.getD j 0 : Nat))
theorem CellsAt.row {w : World} {t base : Nat} {a : Addr} {xs : List Nat} (h : u64.Row t w base (some a) xs) : CellsAt w a xs := by
  intro j hj
  obtain ⟨a', x, ha, hc, _, hx⟩ := u64at h hj
  cases ha
  rw [hx.out]; exact hc
theorem CellsAt.drop {w : World} {a : Addr} {xs : List Nat} (h : CellsAt w a xs) (k : Nat) : CellsAt w (a.add k) (xs.drop k) := by
  intro j hj
  have hj' : k + j < xs.length := by simp at hj; omega
  rw [Addr.add_add, h _ hj']
  simp [List.getD_eq_getElem?_getD, List.getElem?_drop]
theorem CellsAt.take {w : World} {a : Addr} {xs : List Nat} (h : CellsAt w a xs) (k : Nat) : CellsAt w a (xs.take k) := by
  intro j hj
  simp only [List.length_take] at hj
  rw [h j (by omega)]
  simp [List.getD_eq_getElem?_getD, List.getElem?_take, show j < k by omega]
theorem CellsAt.only {w w' : World} {g : Nat} {a : Addr} {xs : List Nat} (h : CellsAt w a xs) (ho : Only g w w') (hne : a.block ≠ g) : CellsAt w' a xs :=
  fun j hj => (ho.cell (by rw [Addr.add_block]; exact hne)).trans (h j hj)
theorem CellsAt.below {w w' : World} {B : Nat} {a : Addr} {xs : List Nat} (h : CellsAt w a xs) (ho : Below B w w') (hne : a.block < B) : CellsAt w' a xs :=
  fun j hj => (ho.cell (by rw [Addr.add_block]; exact hne)).trans (h j hj)
theorem CellsAt.blk {w : World} {g o t : Nat} {Z xs pre post : List Nat} (hb : Blk w g t (i64s Z)) (hZ : Z = pre ++ (xs ++ post)) (ho : pre.length = o) : CellsAt w ⟨g, o, none⟩ xs := by
  intro j hj
  rw [show (⟨g, o, none⟩ : Addr).add j = ⟨g, o + j, none⟩ from by unfold Addr.add; split <;> simp_all, hb.cell, hZ]
  subst ho
  unfold i64s
  rw [List.getElem?_map, List.getElem?_append_right (by omega), Nat.add_sub_cancel_left, List.getElem?_append_left hj]
  simp [List.getD_eq_getElem?_getD, hj]
theorem CellsAt.eq {w : World} {g t : Nat} {Z xs : List Nat} (h : CellsAt w ⟨g, 0, none⟩ xs) (hb : Blk w g t (i64s Z)) (hl : xs.length ≤ Z.length) : xs = Z.take xs.length := by
  apply List.ext_getElem?
  intro j
  rcases Nat.lt_or_ge j xs.length with hj | hj
  · have := h j hj
    rw [show (⟨g, 0, none⟩ : Addr).add j = ⟨g, j, none⟩ from by unfold Addr.add; split <;> simp_all, hb.cell] at this
    simp [i64s, show j < Z.length by omega, hj] at this
    rw [List.getElem?_take, if_pos hj, List.getElem?_eq_getElem hj, List.getElem?_eq_getElem (by omega)]
    have h2 : ((Z[j] : Nat) : Int) = (xs[j] : Nat) := by first | exact this | (simp [List.getD_eq_getElem?_getD, hj] at this; omega)
    congr 1; omega
  · rw [List.getElem?_eq_none hj, List.getElem?_eq_none (by simp; omega)]
theorem Src.cells {w : World} {g o : Nat} {pre zs post xs : List Nat} {a : Addr} (h : CellsAt w a xs) (ho : pre.length = o) (hq : (a = ⟨g, o, none⟩ ∧ xs = zs.take xs.length) ∨ a.block ≠ g) : Src w g pre zs post (some a) xs := by
  rcases hq with ⟨rfl, hq⟩ | hq
  · exact Src.here ho hq
  · intro w' ys k _ _ hW j _ hj
    exact ⟨a, rfl, h.only hW hq j hj⟩
theorem drop_all {zs rs : List Nat} {k : Nat} (h : zs.length ≤ k) : rs ++ zs.drop k = rs := by rw [List.drop_of_length_le h, List.append_nil]
/-- the address of a slice cut from a place on -/
def adv (a : Option Addr) (k c : Nat) : Option Addr := if c = k then a else a.map (·.add k)
theorem adv_or (a : Addr) {k c n : Nat} (hn : n ≤ c) : adv (some a) k c = some (a.add k) ∨ n - k = 0 := by
  unfold adv
  split
  · exact .inr (by omega)
  · exact .inl rfl
theorem slice_from (T : Nat) (hT : Tryz.prog.underlying T = some (.slice 163)) (W : World) (A : Option Addr) (n c k : Nat) (i : Int) (hi : i = k) (hk : k ≤ n) (hnc : n ≤ c) :
    (Instr.slice T (.slice A n c) (some (.int .i64 i)) none none).run Tryz.prog W = .ok (.slice (adv A k c) (n - k) (c - k)) W := by
  subst hi
  obtain ⟨j, hj, _, hs, _⟩ := word_info
  have hw : (IntKind.i64.wrap (k : Int)) = k → True := fun _ => trivial
  simp [Instr.slice, run_underlying hT, Instr.sliceBounds, Instr.sliceBound, asIntOf, hk, sizeOf, typeInfo, hj, hs, adv]
/-- the copying of what is left -/
theorem copy_rest {w : World} {g o k n : Nat} {pre rs zs post xs : List Nat} {a : Addr} (hb : Blk w g 163 (i64s (pre ++ ((rs ++ zs.drop k) ++ post)))) (ho : pre.length = o) (hk : rs.length = k) (hz : zs.length = n) (hx : xs.length = n) (hkn : k ≤ n)
    (hs : ∀ j, k ≤ j → j < n → w.cell? (a.add j) = some (.int .u64 (xs.getD j 0 : Nat))) (cz cx ty : Nat) (A P : Option Addr) (hA : A = some (a.add k) ∨ n - k = 0) (hP : P = some ⟨g, o + k, none⟩ ∨ n - k = 0) :
    (Builtin.copy_ #[146, 146] ty #[.slice P (n - k) cz, .slice A (n - k) cx]).run Tryz.prog w = .ok (.int .i64 ((n - k : Nat) : Int)) (w.setRow g (i64s (pre ++ ((rs ++ xs.drop k) ++ post))).toArray) := by
  have h := copy64 hb (o + k) (n - k) cz cx 146 146 ty (.inr rfl) A (xs.drop k) (by simp [hx]) (fun j hj => ⟨a.add k, by
    rcases hA with h | h
    · exact h
    · omega, by
    rw [Addr.add_add, hs (k + j) (by omega) (by omega)]
    simp [List.getD_eq_getElem?_getD, List.getElem?_drop]⟩) (by simp; omega) P hP
  have e : pre ++ ((rs ++ xs.drop k) ++ post) = (pre ++ ((rs ++ zs.drop k) ++ post)).take (o + k) ++ (xs.drop k ++ (pre ++ ((rs ++ zs.drop k) ++ post)).drop (o + k + (n - k))) := by
    have e1 : pre ++ ((rs ++ zs.drop k) ++ post) = (pre ++ rs) ++ (zs.drop k ++ post) := by simp
    have e2 : pre ++ ((rs ++ zs.drop k) ++ post) = (pre ++ (rs ++ zs.drop k)) ++ post := by simp
    have e3 : (pre ++ ((rs ++ zs.drop k) ++ post)).drop (o + k + (n - k)) = post := by
      rw [e2, List.drop_left' (by simp; omega)]
    rw [e3, e1, List.take_left' (by simp; omega)]
    simp
  rw [e]; exact h

/-- the words of x + y behind the first k words, when one is carried -/
structure IncInv (B : Nat) (xs : List Nat) (y k : Nat) (rs : List Nat) : Prop where
  len : rs.length = k
  bd : ∀ d ∈ rs, d < B
  eq : val B rs + B ^ k = val B (xs.take k) + y
structure IncDone (B : Nat) (xs : List Nat) (y : Nat) (rs : List Nat) (v : Nat) : Prop where
  len : rs.length = xs.length
  bd : ∀ d ∈ rs, d < B
  v1 : v ≤ 1
  eq : val B rs + B ^ xs.length * v = val B xs + y
theorem IncInv.stop {B : Nat} {xs rs : List Nat} {y k x : Nat} (h : IncInv B xs y k rs) (hk : k < xs.length) (hx : xs.getD k 0 = x) (hb : ∀ d ∈ xs, d < B) (h1 : x + 1 < B) : IncDone B xs y (rs ++ [x + 1] ++ xs.drop (k + 1)) 0 := by
  refine ⟨by simp [h.len]; omega, fun d hd => ?_, by omega, ?_⟩
  · simp only [List.mem_append, List.mem_singleton] at hd
    rcases hd with (hd | hd) | hd
    · exact h.bd d hd
    · omega
    · exact hb d (List.mem_of_mem_drop hd)
  · have e := h.eq
    have e2 := val_split B xs (k + 1) (by omega)
    rw [val_take B hk, hx] at e2
    rw [e2, val_append, val_append, List.length_append, h.len]
    simp only [val, List.length_singleton, Nat.mul_zero, Nat.add_zero, Nat.mul_add, Nat.mul_one]
    omega
theorem IncInv.more {B : Nat} (hB : 0 < B) {xs rs : List Nat} {y k x : Nat} (h : IncInv B xs y k rs) (hk : k < xs.length) (hx : xs.getD k 0 = x) (h1 : x + 1 = B) : IncInv B xs y (k + 1) (rs ++ [0]) := by
  refine ⟨by simp [h.len], fun d hd => ?_, ?_⟩
  · simp only [List.mem_append, List.mem_singleton] at hd
    rcases hd with hd | hd
    · exact h.bd d hd
    · subst hd; exact hB
  · have e := h.eq
    rw [val_take B hk, hx, val_append, h.len, Nat.pow_succ]
    simp only [val, Nat.mul_zero, Nat.add_zero]
    have : B ^ k * B = B ^ k * x + B ^ k := by rw [← h1, Nat.mul_add, Nat.mul_one]
    omega
theorem IncInv.done {B : Nat} {xs rs : List Nat} {y : Nat} (h : IncInv B xs y xs.length rs) : IncDone B xs y rs 1 := by
  have e := h.eq
  rw [List.take_length] at e
  exact ⟨h.len, h.bd, by omega, by rw [Nat.mul_one]; exact e⟩
theorem inc_first {B : Nat} (hB : 0 < B) {xs : List Nat} {y x : Nat} (h0 : 0 < xs.length) (hx : xs.getD 0 0 = x) (hb : ∀ d ∈ xs, d < B) (hy : y < B) :
    (x + y < B → IncDone B xs y ([(x + y) % B] ++ xs.drop 1) 0) ∧ (B ≤ x + y → IncInv B xs y 1 [(x + y) % B]) := by
  have hxb := getD_mem_lt hb h0
  rw [hx] at hxb
  have e2 := val_split B xs 1 (by omega)
  have e3 := val_take B h0
  rw [hx, List.take_zero] at e3
  simp only [val, Nat.pow_zero, Nat.one_mul, Nat.zero_add] at e3
  refine ⟨fun h => ⟨by simp; omega, fun d hd => ?_, by omega, ?_⟩, fun h => ⟨rfl, fun d hd => ?_, ?_⟩⟩
  · simp only [List.mem_append, List.mem_singleton] at hd
    rcases hd with hd | hd
    · subst hd; exact Nat.mod_lt _ hB
    · exact hb d (List.mem_of_mem_drop hd)
  · have hm : (x + y) % B = x + y := Nat.mod_eq_of_lt h
    rw [hm, val_append, e2, e3]
    simp only [val, List.length_singleton, Nat.mul_zero, Nat.add_zero]
    omega
  · simp at hd; subst hd; exact Nat.mod_lt _ hB
  · rw [e3]
    simp only [val, Nat.mul_zero, Nat.add_zero, Nat.pow_one]
    have := Nat.mod_add_div (x + y) B
    have h2 : (x + y) / B = 1 := by
      apply Nat.div_eq_of_lt_le <;> omega
    rw [h2] at this; omega
end Go.Proofs.YtcfejobdgiiihaaGreatDoor

namespace Go.Proofs.YtcfejobdgiiihaaGreatDoor
open Go.RowKit

theorem neq_ptr_same (w : World) (a : Addr) : (binOp .neq 183 (.pointer (some a)) (.pointer (some a))).run Tryz.prog w = .ok (.bool false) w := by
  obtain ⟨i, hi, _⟩ := word_info
  have hp : Tryz.prog.underlying 183 = some (.pointer 163) := by kernel_rfl
  have h : ∀ d : Nat, (Op.equalIn (d + 1) 183 (.pointer (some a)) (.pointer (some a))).run Tryz.prog w = .ok true w := fun d => by
    simp [Op.equalIn, run_underlying hp, sizeOf, typeInfo, hi, run_sameAddr_same]
  simp only [binOp]
  simp [Op.equal, Op.maxDepth, h 9999]
theorem neq_ptr_other (w : World) {a b : Addr} {ca cb : Array Value} {ta tb : TypeId} (hne : a ≠ b) (ha : w.heap[a.block]? = some (.cells ca ta (0, 0))) (hb : w.heap[b.block]? = some (.cells cb tb (0, 0))) :
    (binOp .neq 183 (.pointer (some a)) (.pointer (some b))).run Tryz.prog w = .ok (.bool true) w := by
  obtain ⟨i, hi, _, hs, _⟩ := word_info
  have hp : Tryz.prog.underlying 183 = some (.pointer 163) := by kernel_rfl
  have h : ∀ d : Nat, (Op.equalIn (d + 1) 183 (.pointer (some a)) (.pointer (some b))).run Tryz.prog w = .ok false w := fun d => by
    simp [Op.equalIn, run_underlying hp, sizeOf, typeInfo, hi, hs, run_sameAddr_other w hne ha hb]
  simp only [binOp]
  simp [Op.equal, Op.maxDepth, h 9999]

set_option maxHeartbeats 2000000 in
set_option maxRecDepth 100000 in
theorem addVW_calls (a : Addr) (n y c cx g o : Nat) (xs pre zs post : List Nat) (w : World) (hn : xs.length = n) (hg : Blk w g 163 (i64s (pre ++ (zs ++ post)))) (hz : zs.length = n) (hpo : pre.length = o) (hzb : ∀ d ∈ pre ++ (zs ++ post), d < B64)
    (hA : CellsAt w a xs) (hq : (a = ⟨g, o, none⟩ ∧ xs = zs) ∨ a.block ≠ g) (hxb : ∀ d ∈ xs, d < B64) (hn0 : 0 < n) (hyb : y < B64) (hnb : n ≤ 1099511627776) (hob : o ≤ 1099511627776) (hnc : n ≤ c) (hncx : n ≤ cx) (hpl : ∃ ca ta, w.heap[a.block]? = some (.cells ca ta (0, 0))) :
    Calls Tryz.prog 138 #[.slice (some ⟨g, o, none⟩) n c, .slice (some a) n cx, .int .u64 y] w fun e w' => ∃ (v : Nat) (rs : List Nat), e = .returned (.int .u64 v) ∧ Blk w' g 163 (i64s (pre ++ (rs ++ post))) ∧ IncDone B64 xs y rs v ∧ Only g w w' := by
  subst hn
  have HZB := Lib.hid hzb
  have HXB := Lib.hid hxb
  have hS : Src w g pre zs post (some a) xs := Src.cells hA hpo (hq.imp (fun h => ⟨h.1, by rw [h.2, List.take_length]⟩) id)
  have HS := Lib.hid hS
  have hc0 := hA 0 hn0
  obtain ⟨x, hx⟩ : ∃ x, xs.getD 0 0 = x := ⟨_, rfl⟩
  have hxk := getD_mem_lt hxb hn0
  have HF := Lib.hid (inc_first (B := B64) (by decide) hn0 hx hxb hyb)
  rw [hx] at hc0 hxk
  rw [show a.add 0 = a from by simp [Addr.add]] at hc0
  obtain ⟨s, hs⟩ : ∃ s, s = (x + y + 0) % 2 ^ 64 := ⟨_, rfl⟩
  obtain ⟨b, hb⟩ : ∃ b, b = (x + y + 0) / 2 ^ 64 := ⟨_, rfl⟩
  have HC := fun W => badd_calls x y 0 s b (.inl rfl) hs hb W
  have HC' := Lib.hid HC
  obtain ⟨z, hz1, hz2, _, _⟩ := hg.at64 (i := o) (by simp; omega) hzb
  have hlz : ((xs.length : Int) == 0) = false := by simp; intro e; rw [e] at hn0; simp at hn0
  clear hzb hxb hS HC
  have HQ := Lib.hid hq
  have HHS := Lib.hid hs
  have HHB := Lib.hid hb
  have HA := Lib.hid hA
  clear hq hs hb hA
  go_enter Tryz.func138, Tryz.ntmps138
  go_wp2_with fail
  refine (HC'.out _).mono ?_
  rintro e w' ⟨rfl, rfl⟩
  by_cases hxy : x + y < 18446744073709551616
  · obtain rfl : b = 0 := by have := HHB.out; omega
    have HS0' : Hid (s = (x + y) % B64) := by have := HHS.out; rw [Hid, this, Nat.add_zero]
    have hi1 : (0 : Int) < (xs.length : Int) := by omega
    clear HHS HHB
    rcases HQ.out with ⟨rfl, hqe⟩ | hqe
    · have HQE := Lib.hid hqe
      have hnp := fun W => neq_ptr_same W ⟨g, o, none⟩
      clear hqe HQ
      go_wp2
      go_quiet (fail)
      go_wp2
      go_ret
      have hst := HF.out.1 hxy
      rw [← HS0'.out] at hst
      refine ⟨0, _, rfl, ?_, hst, ((Only.refl g w).setCell rfl _).drewN _⟩
      have hB1 := hg.set64 o s _ rfl
      rw [show (pre ++ (zs ++ post)).set o s = pre ++ (([] ++ [s]) ++ zs.drop (0 + 1) ++ post) from set_at pre [] 0 s zs post o xs.length hpo rfl hz hn0] at hB1
      rw [HQE.out]; exact hB1
    · have hqe2 : ¬ g = a.block := fun h => hqe h.symm
      obtain ⟨ca, ta, hpl⟩ := hpl
      have hB1 := hg.set64 o s _ rfl
      rw [show (pre ++ (zs ++ post)).set o s = pre ++ (([] ++ [s]) ++ zs.drop (0 + 1) ++ post) from set_at pre [] 0 s zs post o xs.length hpo rfl hz hn0] at hB1
      have hnp := neq_ptr_other (w.setCell ⟨g, o, none⟩ (.int .u64 s)) (a := ⟨g, o, none⟩) (b := a) (by rintro rfl; exact hqe rfl) hB1 ((Below.heap_setCell w ⟨g, o, none⟩ _ a.block hqe).trans hpl)
      have hnp2 := fun n => neq_ptr_other ((w.setCell ⟨g, o, none⟩ (.int .u64 s)).drewN n) (a := ⟨g, o, none⟩) (b := a) (by rintro rfl; exact hqe rfl) hB1 ((Below.heap_setCell w ⟨g, o, none⟩ _ a.block hqe).trans hpl)
      have hsl1 := fun W => slice_from 146 (by kernel_rfl) W (some ⟨g, o, none⟩) xs.length c 1 1 rfl hn0 hnc
      have hsl2 := fun W => slice_from 146 (by kernel_rfl) W (some a) xs.length cx 1 1 rfl hn0 hncx
      obtain ⟨R, hR⟩ : ∃ R, R = (i64s (pre ++ ((([] ++ [s]) ++ xs.drop (0 + 1)) ++ post))).toArray := ⟨_, rfl⟩
      have hcp := fun m ty => copy_rest (w := (w.setCell ⟨g, o, none⟩ (.int .u64 s)).drewN m) (k := 0 + 1) (rs := [] ++ [s]) hB1 hpo rfl hz rfl hn0 (a := a) (fun j _ hj => (cell_far (by rw [Addr.add_block]; exact hqe) (HA.out j hj))) (c - 1) (cx - 1) ty (adv (some a) 1 cx) (adv (some ⟨g, o, none⟩) 1 c) (adv_or a hncx) (by
        rcases adv_or (⟨g, o, none⟩ : Addr) hnc (k := 1) with h | h
        · left; rw [h]; unfold Addr.add; rw [if_neg (by omega)]
        · exact .inr h)
      simp only [Nat.zero_add] at hcp hR
      simp only [← hR] at hcp
      have HR := Lib.hid hR
      have HB1 := Lib.hid hB1
      clear hB1 hR
      go_wp2
      go_quiet (fail)
      go_wp2
      go_region_held3 (fun w' => True) (first | exact True.intro) (fail)
      go_wp2
      go_ret
      have hst := HF.out.1 hxy
      rw [← HS0'.out] at hst
      refine ⟨0, _, rfl, ?_, hst, (((Only.refl g w).setCell rfl _).drewN _).setRow _⟩
      rw [HR.out]
      exact Blk.setRow HB1.out _
  · obtain rfl : b = 1 := by have := HHB.out; simp only [B64] at *; omega
    have hst := HF.out.2 (by simp only [B64]; omega)
    rw [show (x + y) % B64 = s from by rw [HHS.out, Nat.add_zero]] at hst
    have HST := Lib.hid hst
    clear hst HHS HHB hxy
    have hi1 : (0 : Int) < (xs.length : Int) := by omega
    have hB1 := hg.set64 o s _ rfl
    rw [show (pre ++ (zs ++ post)).set o s = pre ++ (([] ++ [s]) ++ zs.drop (0 + 1) ++ post) from set_at pre [] 0 s zs post o xs.length hpo rfl hz hn0] at hB1
    have HB1 := Lib.hid hB1
    clear hB1
    go_wp2
    go_loopw [9] (fun i wr => ∃ (k : Nat) (rs : List Nat), i = .int .i64 k ∧ 1 ≤ k ∧ k ≤ xs.length ∧ Hid (IncInv B64 xs y k rs) ∧ Hid (Blk wr g 163 (i64s (pre ++ ((rs ++ zs.drop k) ++ post)))) ∧ Hid (Only g w wr)) (fun i _ => xs.length - (intOf i).toNat)
    case atStart => exact ⟨1, [s], rfl, by omega, by omega, HST.out, HB1.out, (Only.refl g w).setCell rfl _⟩
    case round =>
      obtain ⟨k, rs, rfl, hk1, hk, hI, hZ, hW⟩ := hrel
      have hrl := hI.out.len
      by_cases hlt : k < xs.length
      · have hbb := bd_at HZB.out hI.out.bd k
        obtain ⟨z', hz1', hz2', _, _⟩ := hZ.out.at64 (i := o + k) (by simp; omega) hbb
        have HBB := Lib.hid hbb
        clear hbb
        obtain ⟨a', ha, hca⟩ := HS.out wr rs k hrl hZ.out hW.out k (Nat.le_refl _) hlt
        cases ha
        have hxk' := getD_mem_lt HXB.out hlt
        obtain ⟨x', hx'⟩ : ∃ x', xs.getD k 0 = x' := ⟨_, rfl⟩
        rw [hx'] at hca hxk'
        have HX' := Lib.hid hx'
        clear hx'
        have hi2 : (k : Int) < (xs.length : Int) := by omega
        have hi3 : (0 : Int) ≤ (k : Int) := by omega
        have hwk : IntKind.i64.wrap ((k : Int) + 1) = (k : Int) + 1 := IntWalk.i64_in _ (by omega)
        by_cases hxm : x' = 18446744073709551615
        · subst hxm
          go_wp2
          go_roundw
          case rel =>
            have hst := hI.out.more (by decide) hlt HX'.out rfl
            have hb := hZ.out.set64 (o + k) 0 _ rfl
            rw [set_at pre rs k _ zs post o xs.length hpo hrl hz hlt] at hb
            exact ⟨k + 1, _, by go_num, by omega, by omega, hst, hb, hW.out.setCell rfl _⟩
          case measure => simp [intOf]; omega
        · have hxn : ((x' : Int) != 18446744073709551615) = true := by simp; omega
          have hst := hI.out.stop hlt HX'.out HXB.out (by simp only [B64] at *; omega)
          have hb := hZ.out.set64 (o + k) (x' + 1) ((x' : Int) + 1) (by omega)
          rw [set_at pre rs k _ zs post o xs.length hpo hrl hz hlt] at hb
          have HST' := Lib.hid hst
          have HB := Lib.hid hb
          clear hst hb
          have hx1 : IntKind.u64.wrap ((x' : Int) + 1) = (x' : Int) + 1 := by rw [IntKind.wrap_u64]; simp only [B64] at hxk'; omega
          have HXM := Lib.hid hxm
          have HXK' := Lib.hid hxk'
          clear hxm hxk'
          rcases HQ.out with ⟨rfl, hqe⟩ | hqe
          · have HQE := Lib.hid hqe
            clear hqe HQ
            have hzx : z' = x' := by
              have h1 := hca
              rw [show (⟨g, o, none⟩ : Addr).add k = ⟨g, o + k, none⟩ from by unfold Addr.add; rw [if_neg (by omega)], hz1'] at h1
              simp at h1; omega
            subst hzx
            have hnp := fun W => neq_ptr_same W ⟨g, o, none⟩
            go_wp2
            go_quiet (fail)
            go_wp2
            go_ret
            refine ⟨0, _, rfl, ?_, HST'.out, (hW.out.setCell rfl _).drewN _⟩
            have e := HB.out
            rw [← HQE.out] at e
            exact e
          · have hqe2 : ¬ g = a.block := fun h => hqe h.symm
            obtain ⟨ca, ta, hpl⟩ := hpl
            have hpl2 : (wr.setCell ⟨g, o + k, none⟩ (.int .u64 ((x' : Int) + 1))).heap[a.block]? = some (.cells ca ta (0, 0)) := ((hW.out.setCell rfl _).block _ hqe).trans hpl
            have hnp := neq_ptr_other (wr.setCell ⟨g, o + k, none⟩ (.int .u64 ((x' : Int) + 1))) (a := ⟨g, o, none⟩) (b := a) (by rintro rfl; exact hqe rfl) HB.out hpl2
            have hnp2 := fun n => neq_ptr_other ((wr.setCell ⟨g, o + k, none⟩ (.int .u64 ((x' : Int) + 1))).drewN n) (a := ⟨g, o, none⟩) (b := a) (by rintro rfl; exact hqe rfl) HB.out hpl2
            have hsl1 := fun W => slice_from 146 (by kernel_rfl) W (some ⟨g, o, none⟩) xs.length c (k + 1) ((k : Int) + 1) (by omega) hlt hnc
            have hsl2 := fun W => slice_from 146 (by kernel_rfl) W (some a) xs.length cx (k + 1) ((k : Int) + 1) (by omega) hlt hncx
            obtain ⟨R, hR⟩ : ∃ R, R = (i64s (pre ++ (((rs ++ [x' + 1]) ++ xs.drop (k + 1)) ++ post))).toArray := ⟨_, rfl⟩
            have hcp := fun m ty => copy_rest (w := (wr.setCell ⟨g, o + k, none⟩ (.int .u64 ((x' : Int) + 1))).drewN m) (k := k + 1) (rs := rs ++ [x' + 1]) HB.out hpo (by simp [hrl]) hz rfl hlt (a := a) (fun j _ hj => (cell_far (by rw [Addr.add_block]; exact hqe) ((hW.out.cell (by rw [Addr.add_block]; exact hqe)).trans (HA.out j hj)))) (c - (k + 1)) (cx - (k + 1)) ty (adv (some a) (k + 1) cx) (adv (some ⟨g, o, none⟩) (k + 1) c) (adv_or a (by omega)) (by
              rcases adv_or (⟨g, o, none⟩ : Addr) hnc (k := k + 1) with h | h
              · left; rw [h]; unfold Addr.add; rw [if_neg (by omega)]
              · exact .inr h)
            simp only [← hR] at hcp
            have HR := Lib.hid hR
            clear hR
            go_wp2
            go_quiet (fail)
            go_wp2
            go_region_held3 (fun w' => True) (first | exact True.intro) (fail)
            go_wp2
            go_ret
            refine ⟨0, _, rfl, ?_, HST'.out, ((hW.out.setCell rfl _).drewN _).setRow _⟩
            rw [HR.out]
            exact Blk.setRow HB.out _
      · obtain rfl : k = xs.length := by omega
        have hZ' := hZ.out
        rw [List.drop_of_length_le (by omega), List.append_nil] at hZ'
        have HZ' := Lib.hid hZ'
        clear hZ'
        go_wp2
        go_ret
        exact ⟨1, rs, rfl, HZ'.out, hI.out.done, hW.out⟩
end Go.Proofs.YtcfejobdgiiihaaGreatDoor
