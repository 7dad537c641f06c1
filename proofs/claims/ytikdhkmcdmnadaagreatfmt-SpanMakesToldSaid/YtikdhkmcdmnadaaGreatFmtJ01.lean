/- Walks and plain laws of this seat's functions, part 1: Pre Dig2 Dig3 Dig4. -/
import Derived.Test.YtikdhkmcdmnadaaGreatFmtRows
import Derived.Laws.BitsAllLaws
import Derived.Test.YtikdhkmcdmnadaaGreatFmtJ00
set_option linter.unusedVariables false
set_option linter.unusedSimpArgs false
namespace Go.Proofs.YtikdhkmcdmnadaaGreatFmt
open Go.RowKit

/-! what the bodiless functions tell -/
@[go_sem] theorem run_f64bits (a : Nat) (w : World) : (callFunc 10 #[.float .f64 a]).run Tryz.prog w = .ok (.value (.int .u64 a)) w := by kernel_rfl
@[go_sem] theorem run_f64from (a : Int) (w : World) : (callFunc 29 #[.int .u64 a]).run Tryz.prog w = .ok (.value (.float .f64 a.toNat)) w := by kernel_rfl

abbrev B32 : Nat := 4294967296
def u32 : Rd Nat := Rd.scalar (fun x => .int .u32 (x : Nat)) (· < 4294967296) (fun _ => rfl)
def u64 : Rd Nat := Rd.scalar (fun x => .int .u64 (x : Nat)) (· < 18446744073709551616) (fun _ => rfl)
def i32s (zs : List Nat) : List Value := zs.map fun d => .int .u32 (d : Nat)
def i64s (zs : List Nat) : List Value := zs.map fun d => .int .u64 (d : Nat)
theorem Blk.at32 {w : World} {b t : Nat} {zs : List Nat} (h : Blk w b t (i32s zs)) {i : Nat} (hi : i < zs.length) (hz : ∀ d ∈ zs, d < 4294967296) :
    ∃ z, w.cell? ⟨b, i, none⟩ = some (.int .u32 (z : Nat)) ∧ w.frozen? ⟨b, i, none⟩ = false ∧ z < 4294967296 ∧ Hid (zs.getD i 0 = z) := by
  refine ⟨zs.getD i 0, ?_, h.frozen i, getD_mem_lt hz hi, rfl⟩
  rw [h.cell]; simp [i32s, hi]
theorem Blk.set32 {w : World} {b t : Nat} {zs : List Nat} (h : Blk w b t (i32s zs)) (i x : Nat) (v : Int) (hv : v = x) :
    Blk (w.setCell ⟨b, i, none⟩ (.int .u32 v)) b t (i32s (zs.set i x)) := by
  subst hv
  have := h.set i (.int .u32 (x : Nat))
  simpa [i32s, List.map_set] using this
theorem made32 (n : Nat) : (madeCells #[Value.int .u32 0] n).toList = i32s (List.replicate n 0) := by
  simp [i32s, madeCells, Nat.mod_one, List.map_const']
theorem u32row {t b : Nat} {w : World} {base : Nat} {zs : List Nat} (h : Blk w b t (i32s zs)) (hz : ∀ d ∈ zs, d < 4294967296) (n : Nat) : u32.Row t w base (some ⟨b, 0, none⟩) (zs.take n) :=
  h.row (by simp [i32s, List.map_take]) (fun x hx => hz x (List.mem_of_mem_take hx))
theorem u32all {t b : Nat} {w : World} {base : Nat} {zs : List Nat} (h : Blk w b t (i32s zs)) (hz : ∀ d ∈ zs, d < 4294967296) : u32.Row t w base (some ⟨b, 0, none⟩) zs := by
  have := u32row (base := base) h hz zs.length
  rwa [List.take_length] at this
theorem u32at {t : Nat} {w : World} {base : Nat} {A : Option Addr} {xs : List Nat} (h : u32.Row t w base A xs) {i : Nat} (hi : i < xs.length) :
    ∃ (a : Addr) (x : Nat), A = some a ∧ w.cell? (a.add i) = some (.int .u32 x) ∧ x < 4294967296 ∧ Hid (xs.getD i 0 = x) := by
  obtain ⟨a, x, h1, h2, h3, h4⟩ := Rd.Row.get h hi
  exact ⟨a, x, h1, h2, h3, by have := h4.out; simp [Hid, this]⟩
theorem u32bd {t : Nat} {w : World} {base : Nat} {A : Option Addr} {xs : List Nat} (h : u32.Row t w base A xs) : ∀ d ∈ xs, d < B32 := by
  intro d hd
  obtain ⟨i, hi, rfl⟩ := List.getElem_of_mem hd
  obtain ⟨_, cs, _, _, _, hr, _⟩ := h i _ (List.getElem?_eq_getElem hi)
  exact hr.2
theorem make32 {n : Nat} (W : World) (h : n ≤ 4398046511104) : (Instr.makeSlice 36 (.int .i64 (n : Int)) (.int .i64 (n : Int))).run Tryz.prog W = .ok (.slice (some ⟨W.heap.size, 0, none⟩) n n) (W.alloc (.cells (madeCells #[.int .u32 0] n) 58)) :=
  run_make_row' (P := Tryz.prog) 36 58 (.int .u32 0) 4 (by kernel_rfl) (by kernel_rfl) rfl .i64 .i64 n (by omega) (by omega) W
theorem ret_slice {A : Option Addr} {n m c : Nat} (h : n = m) : Ending.returned (.slice A n c) = .returned (.slice A m c) := by rw [h]
theorem ret_int' {k : IntKind} {a b : Int} (h : a = b) : Ending.returned (.int k a) = .returned (.int k b) := by rw [h]
/-- a whole number as a trimmed row of words -/
def mRd : Rd Nat where
  sz := 1
  E := [58]
  R w base m cs := ∃ (xs : List Nat) (A : Option Addr) (c : Nat), cs = [.slice A xs.length c] ∧ xs.length ≤ c ∧ u32.Row 58 w base A xs ∧ Trimmed xs ∧ val B32 xs = m
  len h := by obtain ⟨_, _, _, rfl, _⟩ := h; rfl
  one h u hu := by obtain ⟨_, _, _, rfl, _⟩ := h; simp at hu; subst hu; rfl
  keep h hk := by obtain ⟨xs, A, c, rfl, h1, h2, h3⟩ := h; exact ⟨xs, A, c, rfl, h1, h2.keep hk (by simp) (fun q hq => by simp [u32, Rd.scalar] at hq), h3⟩
theorem mRd_len {m L : Nat} {xs : List Nat} (ht : Trimmed xs) (hv : val B32 xs = m) (h : m < B32 ^ L) : xs.length ≤ L := len_le_of_val (by decide) ht (hv ▸ h)
/-- what 'trim' makes of a row of one's own -/
theorem mRd_trim {w : World} {base b m : Nat} {zs : List Nat} {n c : Nat} (h : Blk w b 58 (i32s zs)) (hz : ∀ d ∈ zs, d < B32) (hn : zs.length = n) (hc : n ≤ c) (hm : val B32 zs = m) :
    mRd.R w base m [.slice (some ⟨b, 0, none⟩) (trimLen zs n) c] := by
  subst hn
  refine ⟨zs.take (trimLen zs zs.length), _, c, ?_, ?_, u32row h hz _, trimLen_trimmed _ _ (Nat.le_refl _), ?_⟩
  · rw [List.length_take, Nat.min_eq_left (trimLen_le _ _)]
  · rw [List.length_take]; have := trimLen_le zs zs.length; omega
  · rw [trimLen_val _ _ _ (Nat.le_refl _), List.take_length]; exact hm
end Go.Proofs.YtikdhkmcdmnadaaGreatFmt

namespace Go.Proofs.YtikdhkmcdmnadaaGreatFmt

/-! ### left: a * 2^n -/
def LeftInv (B : Nat) (xs : List Nat) (q r k : Nat) (zs : List Nat) : Prop :=
  zs.length = xs.length + q + 1 ∧ (∀ d ∈ zs, d < B) ∧ val B (zs.take (k + q + 1)) = val B (xs.take k) * 2 ^ r * B ^ q ∧ (∀ j, k + q < j → zs.getD j 0 = 0) ∧ zs.getD (k + q) 0 < 2 ^ r
theorem getD_replicate (n j : Nat) : (List.replicate n 0).getD j 0 = 0 := by
  rw [List.getD_eq_getElem?_getD, List.getElem?_replicate]; split <;> rfl
theorem LeftInv.start (B : Nat) (hB : 0 < B) (xs : List Nat) (q r : Nat) : LeftInv B xs q r 0 (List.replicate (xs.length + q + 1) 0) :=
  ⟨by simp, fun d hd => by simp at hd; omega, by rw [List.take_replicate, val_replicate]; simp [val], fun j _ => getD_replicate _ _, by rw [getD_replicate]; exact Nat.pow_pos (by decide)⟩
theorem getD_set_ne {zs : List Nat} {i j d : Nat} (h : i ≠ j) : (zs.set i d).getD j 0 = zs.getD j 0 := by
  simp [List.getElem?_set_ne h]
theorem getD_set_eq {zs : List Nat} {i d : Nat} (h : i < zs.length) : (zs.set i d).getD i 0 = d := by
  simp [h]
theorem LeftInv.step {B : Nat} {xs zs : List Nat} {q r k x z s z' y' : Nat} (hB : 0 < B) (h : LeftInv B xs q r k zs) (hk : k < xs.length) (hx : xs.getD k 0 = x) (hz : zs.getD (k + q) 0 = z)
    (hs : s = x * 2 ^ r) (hz' : z' = z + s % B) (hzb : z' < B) (hy : y' = s / B) (hyb : y' < B) (hyr : y' < 2 ^ r) : LeftInv B xs q r (k + 1) ((zs.set (k + q) z').set (k + q + 1) y') := by
  obtain ⟨h1, h2, h3, h4, h5⟩ := h
  refine ⟨by simpa using h1, mem_set (mem_set h2 hzb) hyb, ?_, ?_, ?_⟩
  · have e1 : k + 1 + q + 1 = (k + q + 1) + 1 := by omega
    rw [e1, val_set B (by simp; omega), val_set B (by omega), val_take B hk, hx, hy, hz']
    have e2 := val_take B (xs := zs) (i := k + q) (by omega)
    rw [hz, h3] at e2
    have e3 := digit_step (B ^ (k + q)) B s
    rw [← Nat.pow_succ, Nat.succ_eq_add_one] at e3
    have e4 : B ^ (k + q) * s = B ^ k * x * 2 ^ r * B ^ q := by
      rw [hs, Nat.pow_add]; simp only [Nat.mul_assoc, Nat.mul_comm, Nat.mul_left_comm]
    simp only [Nat.add_mul, Nat.mul_add]
    omega
  · intro j hj
    rw [getD_set_ne (by omega), getD_set_ne (by omega)]
    exact h4 j (by omega)
  · rw [show k + 1 + q = k + q + 1 from by omega, getD_set_eq (by simp; omega)]
    exact hyr
theorem LeftInv.done {B : Nat} {xs zs : List Nat} {q r : Nat} (h : LeftInv B xs q r xs.length zs) : val B zs = val B xs * 2 ^ r * B ^ q := by
  obtain ⟨h1, h2, h3, h4, h5⟩ := h
  rw [List.take_of_length_le (by omega), List.take_of_length_le (Nat.le_refl _)] at h3
  exact h3
theorem left_num (n v : Nat) : v * 2 ^ (n % 32) * 4294967296 ^ (n / 32) = v * 2 ^ n := by
  rw [show (4294967296 : Nat) = 2 ^ 32 from rfl, ← Nat.pow_mul, Nat.mul_assoc, ← Nat.pow_add, Nat.mod_add_div]
theorem shl_bounds {x r : Nat} (hx : x < 4294967296) (hr : r < 32) : x * 2 ^ r < 18446744073709551616 ∧ x * 2 ^ r / 4294967296 < 2 ^ r ∧ (2:Nat) ^ r ≤ 2147483648 := by
  have h1 : (2 : Nat) ^ r ≤ 2 ^ 31 := Nat.pow_le_pow_right (by decide) (by omega)
  have h2 : x * 2 ^ r ≤ 4294967295 * 2 ^ r := Nat.mul_le_mul_right _ (by omega)
  have h3 : 0 < (2 : Nat) ^ r := Nat.pow_pos (by decide)
  refine ⟨?_, ?_, by omega⟩
  · omega
  · rw [Nat.div_lt_iff_lt_mul (by decide)]; omega
theorem or_add_low {z y r : Nat} (hz : z < 2 ^ r) (hy : y % 2 ^ r = 0) : z ||| y = z + y := by
  obtain ⟨t, ht⟩ := Nat.dvd_of_mod_eq_zero hy
  rw [ht, Nat.or_comm, ← Nat.two_pow_add_eq_or_of_lt hz, Nat.add_comm]
theorem shl_low {x r : Nat} (hr : r < 32) : (x * 2 ^ r % 4294967296) % 2 ^ r = 0 := by
  have : (4294967296 : Nat) = 2 ^ r * 2 ^ (32 - r) := by rw [← Nat.pow_add, show r + (32 - r) = 32 from by omega]
  rw [this, Nat.mod_mul_right_mod]
  simp
theorem low_lt {x z r : Nat} (hr : r < 32) (hz : z < 2 ^ r) : z + x * 2 ^ r % 4294967296 < 4294967296 := by
  have e : (4294967296 : Nat) = 2 ^ r * 2 ^ (32 - r) := by rw [← Nat.pow_add, show r + (32 - r) = 32 from by omega]
  have h1 := shl_low (x := x) hr
  obtain ⟨t, ht⟩ := Nat.dvd_of_mod_eq_zero h1
  have h2 : x * 2 ^ r % 4294967296 < 4294967296 := Nat.mod_lt _ (by decide)
  rw [ht] at h2 ⊢
  rw [e] at h2 ⊢
  have h3 := Nat.lt_of_mul_lt_mul_left h2
  have h4 := Nat.mul_le_mul_left (2 ^ r) h3
  rw [Nat.mul_succ] at h4
  omega

/-! ### times -/
def TimesOut (B : Nat) (xs ys : List Nat) (i : Nat) (zs : List Nat) : Prop :=
  zs.length = xs.length + ys.length ∧ (∀ d ∈ zs, d < B) ∧ val B zs = val B (xs.take i) * val B ys ∧ ∀ j, i + ys.length ≤ j → zs.getD j 0 = 0
def TimesIn (B : Nat) (xs ys : List Nat) (i k c x : Nat) (zs : List Nat) : Prop :=
  zs.length = xs.length + ys.length ∧ (∀ d ∈ zs, d < B) ∧ c < B ∧ val B zs + B ^ (i + k) * c = val B (xs.take i) * val B ys + B ^ i * x * val B (ys.take k) ∧ ∀ j, i + ys.length ≤ j → zs.getD j 0 = 0
theorem TimesOut.start (B : Nat) (hB : 0 < B) (xs ys : List Nat) : TimesOut B xs ys 0 (List.replicate (xs.length + ys.length) 0) :=
  ⟨by simp, fun d hd => by simp at hd; omega, by rw [val_replicate]; simp [val], fun j _ => getD_replicate _ _⟩
theorem TimesOut.inn {B : Nat} (hB : 0 < B) {xs ys zs : List Nat} {i x : Nat} (h : TimesOut B xs ys i zs) : TimesIn B xs ys i 0 0 x zs :=
  ⟨h.1, h.2.1, hB, by simp [h.2.2.1, val], h.2.2.2⟩
theorem TimesIn.step {B : Nat} (hB : 0 < B) {xs ys zs : List Nat} {i k c x y o s : Nat} (h : TimesIn B xs ys i k c x zs) (hi : i < xs.length) (hk : k < ys.length) (hy : ys.getD k 0 = y) (ho : zs.getD (i + k) 0 = o)
    (hs : s = c + x * y + o) (hc : s / B < B) : TimesIn B xs ys i (k + 1) (s / B) x (zs.set (i + k) (s % B)) := by
  obtain ⟨h1, h2, h3, h4, h5⟩ := h
  refine ⟨by simpa using h1, mem_set h2 (Nat.mod_lt _ hB), hc, ?_, ?_⟩
  · have e1 := val_set_any B (xs := zs) (k := i + k) (s % B) (by omega)
    rw [ho] at e1
    have e2 := digit_step (B ^ (i + k)) B s
    rw [← Nat.pow_succ, Nat.succ_eq_add_one] at e2
    rw [← Nat.add_assoc]
    rw [val_take B hk, hy, Nat.mul_add]
    have e3 : B ^ (i + k) * s = B ^ (i + k) * c + B ^ i * x * (B ^ k * y) + B ^ (i + k) * o := by
      rw [hs]; simp only [Nat.mul_add, Nat.pow_add]; simp only [Nat.mul_assoc, Nat.mul_comm, Nat.mul_left_comm]
    omega
  · intro j hj
    rw [getD_set_ne (by omega)]
    exact h5 j hj
theorem TimesIn.out {B : Nat} {xs ys zs : List Nat} {i c x : Nat} (h : TimesIn B xs ys i ys.length c x zs) (hi : i < xs.length) (hx : xs.getD i 0 = x) : TimesOut B xs ys (i + 1) (zs.set (i + ys.length) c) := by
  obtain ⟨h1, h2, h3, h4, h5⟩ := h
  refine ⟨by simpa using h1, mem_set h2 h3, ?_, ?_⟩
  · have e1 := val_set_any B (xs := zs) (k := i + ys.length) c (by omega)
    rw [h5 _ (Nat.le_refl _)] at e1
    rw [val_take B hi, hx, Nat.add_mul]
    rw [List.take_of_length_le (Nat.le_refl _)] at h4
    omega
  · intro j hj
    rw [getD_set_ne (by omega)]
    exact h5 j (by omega)
theorem times_bd {x y : Nat} (hx : x < 4294967296) (hy : y < 4294967296) : x * y ≤ 18446744065119617025 :=
  Nat.mul_le_mul (show x ≤ 4294967295 by omega) (show y ≤ 4294967295 by omega)

/-! ### how many bits -/
def bl (m : Nat) : Nat := if m = 0 then 0 else m.log2 + 1
theorem bl_zero : bl 0 = 0 := rfl
theorem bl_lt (m : Nat) : m < 2 ^ bl m := by
  unfold bl; split
  · rename_i h; subst h; decide
  · exact Nat.lt_log2_self
theorem bl_le {m : Nat} (h : m ≠ 0) : 2 ^ (bl m - 1) ≤ m := by
  unfold bl; rw [if_neg h, Nat.add_sub_cancel]; exact Nat.log2_self_le h
theorem bl_pos {m : Nat} (h : m ≠ 0) : 0 < bl m := by unfold bl; rw [if_neg h]; omega
theorem bl_eq {m L : Nat} (h1 : m < 2 ^ (L + 1)) (h2 : 2 ^ L ≤ m) : bl m = L + 1 := by
  have hm : m ≠ 0 := by have := Nat.pow_pos (n := L) (show 0 < 2 by decide); omega
  have a := (Nat.pow_lt_pow_iff_right (show 1 < 2 by decide)).1 (Nat.lt_of_le_of_lt (bl_le hm) h1)
  have b := (Nat.pow_lt_pow_iff_right (show 1 < 2 by decide)).1 (Nat.lt_of_le_of_lt h2 (bl_lt m))
  have := bl_pos hm
  omega
theorem bl_le_of_lt {m L : Nat} (h : m < 2 ^ L) : bl m ≤ L := by
  rcases Nat.eq_zero_or_pos m with h0 | h0
  · subst h0; rw [bl_zero]; omega
  · have := (Nat.pow_lt_pow_iff_right (show 1 < 2 by decide)).1 (Nat.lt_of_le_of_lt (bl_le (by omega : m ≠ 0)) h)
    omega
theorem bl_mul_pow {m : Nat} (h : m ≠ 0) (k : Nat) : bl (m * 2 ^ k) = bl m + k := by
  have h1 := bl_lt m
  have h2 := bl_le h
  have h3 := bl_pos h
  have := bl_eq (m := m * 2 ^ k) (L := bl m - 1 + k)
    (by rw [show bl m - 1 + k + 1 = bl m + k from by omega, Nat.pow_add]; exact Nat.mul_lt_mul_of_pos_right h1 (Nat.pow_pos (by decide)))
    (by rw [Nat.pow_add]; exact Nat.mul_le_mul_right _ h2)
  omega
theorem bl_low {lo m : Nat} (h : m ≠ 0) {k : Nat} (hl : lo < 2 ^ k) : bl (lo + 2 ^ k * m) = k + bl m := by
  have h1 := bl_lt m
  have h2 := bl_le h
  have h3 := bl_pos h
  have := bl_eq (m := lo + 2 ^ k * m) (L := bl m - 1 + k)
    (by
      rw [show bl m - 1 + k + 1 = k + bl m from by omega, Nat.pow_add]
      have := Nat.mul_le_mul_left (2 ^ k) h1
      rw [Nat.mul_succ] at this; omega)
    (by
      rw [Nat.add_comm (bl m - 1), Nat.pow_add]
      have := Nat.mul_le_mul_left (2 ^ k) h2; omega)
  omega
theorem bl_half {x : Nat} (h : x ≠ 0) : bl (x / 2) + 1 = bl x := by
  rcases Nat.eq_zero_or_pos (x / 2) with h0 | h0
  · have : x = 1 := by omega
    subst this; decide
  · have := bl_low (lo := x % 2) (m := x / 2) (by omega) (k := 1) (by omega)
    rw [show x % 2 + 2 ^ 1 * (x / 2) = x from by omega] at this
    omega
end Go.Proofs.YtikdhkmcdmnadaaGreatFmt

namespace Go.Proofs.YtikdhkmcdmnadaaGreatFmt

/-! ### right: a / 2^n -/
theorem right_num (P Q h g W : Nat) (hP : 0 < P) (hh : h < P * Q) : (h + P * Q * (g + P * Q * W)) / P = ((h + P * Q * g) / P) % (P * Q) + P * Q * ((g + P * Q * W) / P) := by
  have hg := Nat.mod_add_div g P
  have hv := Nat.mod_lt g hP
  generalize g / P = u at *
  generalize g % P = v at *
  have e1 : (g + P * Q * W) / P = u + Q * W := by
    rw [← hg, show v + P * u + P * Q * W = v + P * (u + Q * W) from by simp only [Nat.mul_add, Nat.mul_assoc]; omega, Nat.add_mul_div_left _ _ hP, Nat.div_eq_of_lt hv]; omega
  have e2 : (h + P * Q * g) / P = (h + P * Q * v) / P + P * Q * u := by
    rw [← hg, show h + P * Q * (v + P * u) = h + P * Q * v + P * (P * Q * u) from by
      simp only [Nat.mul_add]; rw [show P * Q * (P * u) = P * (P * Q * u) from by simp only [Nat.mul_assoc, Nat.mul_comm, Nat.mul_left_comm]]; omega, Nat.add_mul_div_left _ _ hP]
  have e3 : (h + P * Q * v) / P < P * Q := by
    rw [Nat.div_lt_iff_lt_mul hP]
    have := Nat.mul_le_mul_left (P * Q) hv
    rw [Nat.mul_succ] at this
    rw [Nat.mul_comm (P * Q) P]
    rw [Nat.mul_comm (P * Q) P] at this
    omega
  have e4 : (h + P * Q * (g + P * Q * W)) / P = (h + P * Q * v) / P + P * Q * (u + Q * W) := by
    rw [← hg, show h + P * Q * (v + P * u + P * Q * W) = h + P * Q * v + P * (P * Q * (u + Q * W)) from by
      simp only [Nat.mul_add]
      rw [show P * Q * (P * u) = P * (P * Q * u) from by simp only [Nat.mul_assoc, Nat.mul_comm, Nat.mul_left_comm], show P * Q * (P * Q * W) = P * (P * Q * (Q * W)) from by simp only [Nat.mul_assoc, Nat.mul_comm, Nat.mul_left_comm]]; omega, Nat.add_mul_div_left _ _ hP]
  rw [e4, e2, e1, Nat.add_mul_mod_self_left, Nat.mod_eq_of_lt e3]
theorem drop_val (B : Nat) {hs : List Nat} {k : Nat} (h : k < hs.length) : val B (hs.drop k) = hs.getD k 0 + B * val B (hs.drop (k + 1)) := by
  rw [List.drop_eq_getElem_cons h]; simp [val, h]
theorem drop_val' (B : Nat) (hs : List Nat) (k : Nat) : val B (hs.drop k) = hs.getD k 0 + B * val B (hs.drop (k + 1)) := by
  rcases Nat.lt_or_ge k hs.length with h | h
  · exact drop_val B h
  · rw [List.drop_of_length_le h, List.drop_of_length_le (by omega), getD_ge h]; simp [val]
def RightInv (B : Nat) (hs : List Nat) (r k : Nat) (zs : List Nat) : Prop :=
  zs.length = hs.length ∧ (∀ d ∈ zs, d < B) ∧ val B (zs.take k) + B ^ k * (val B (hs.drop k) / 2 ^ r) = val B hs / 2 ^ r
theorem RightInv.start (B : Nat) (hB : 0 < B) (hs : List Nat) (r : Nat) : RightInv B hs r 0 (List.replicate hs.length 0) :=
  ⟨by simp, fun d hd => by simp at hd; omega, by simp [val]⟩
theorem RightInv.step {hs zs : List Nat} {r k h g : Nat} (hr : r < 32) (hI : RightInv 4294967296 hs r k zs) (hk : k < hs.length) (hh : hs.getD k 0 = h) (hb : h < 4294967296) (hg : hs.getD (k + 1) 0 = g) :
    RightInv 4294967296 hs r (k + 1) (zs.set k ((h + 4294967296 * g) / 2 ^ r % 4294967296)) := by
  obtain ⟨h1, h2, h3⟩ := hI
  refine ⟨by simpa using h1, mem_set h2 (Nat.mod_lt _ (by decide)), ?_⟩
  have e : (4294967296 : Nat) = 2 ^ r * 2 ^ (32 - r) := by rw [← Nat.pow_add, show r + (32 - r) = 32 from by omega]
  have e1 := drop_val 4294967296 (hs := hs) (k := k) hk
  have e2 := drop_val' 4294967296 hs (k + 1)
  rw [hh] at e1; rw [hg] at e2
  have e3 := right_num (2 ^ r) (2 ^ (32 - r)) h g (val 4294967296 (hs.drop (k + 1 + 1))) (Nat.pow_pos (by decide)) (by rw [← e]; exact hb)
  rw [← e, ← e2, ← e1] at e3
  rw [val_set _ (by omega), Nat.pow_succ, Nat.mul_assoc, Nat.add_assoc, ← Nat.mul_add, ← e3]
  exact h3
theorem RightInv.done {B : Nat} {hs zs : List Nat} {r : Nat} (h : RightInv B hs r hs.length zs) : val B zs = val B hs / 2 ^ r := by
  obtain ⟨h1, h2, h3⟩ := h
  rw [List.drop_of_length_le (Nat.le_refl _), List.take_of_length_le (by omega)] at h3
  simpa [val] using h3
theorem val_split (B : Nat) (xs : List Nat) (q : Nat) (h : q ≤ xs.length) : val B xs = val B (xs.take q) + B ^ q * val B (xs.drop q) := by
  have := val_append B (xs.take q) (xs.drop q)
  rw [List.take_append_drop, List.length_take, Nat.min_eq_left h] at this
  exact this
theorem pow_32 (n : Nat) : (4294967296 : Nat) ^ (n / 32) * 2 ^ (n % 32) = 2 ^ n := by
  rw [show (4294967296 : Nat) = 2 ^ 32 from rfl, ← Nat.pow_mul, ← Nat.pow_add, Nat.div_add_mod]
/-- floor and rest -/
theorem right_floor {xs : List Nat} {n : Nat} (h : n / 32 ≤ xs.length) (hb : ∀ d ∈ xs, d < 4294967296) :
    val 4294967296 xs / 2 ^ n = val 4294967296 (xs.drop (n / 32)) / 2 ^ (n % 32) := by
  have h1 := val_split 4294967296 xs (n / 32) h
  have h2 := val_lt (B := 4294967296) (by decide) (xs.take (n / 32)) (fun d hd => hb d (List.mem_of_mem_take hd))
  rw [List.length_take, Nat.min_eq_left h] at h2
  have hp : 0 < (4294967296 : Nat) ^ (n / 32) := Nat.pow_pos (by decide)
  rw [h1, ← pow_32, ← Nat.div_div_eq_div_mul, Nat.add_mul_div_left _ _ hp, Nat.div_eq_of_lt h2, Nat.zero_add]
theorem right_rest {xs : List Nat} {n : Nat} (h : n / 32 < xs.length) (hb : ∀ d ∈ xs, d < 4294967296) :
    (val 4294967296 xs % 2 ^ n = 0) ↔ (val 4294967296 (xs.take (n / 32)) = 0 ∧ xs.getD (n / 32) 0 % 2 ^ (n % 32) = 0) := by
  have h1 := val_split 4294967296 xs (n / 32) (by omega)
  have h2 := val_lt (B := 4294967296) (by decide) (xs.take (n / 32)) (fun d hd => hb d (List.mem_of_mem_take hd))
  rw [List.length_take, Nat.min_eq_left (by omega)] at h2
  have hp : 0 < (4294967296 : Nat) ^ (n / 32) := Nat.pow_pos (by decide)
  have h3 : val 4294967296 (xs.drop (n / 32)) % 2 ^ (n % 32) = xs.getD (n / 32) 0 % 2 ^ (n % 32) := by
    rw [drop_val _ h]
    have e : (4294967296 : Nat) = 2 ^ (n % 32) * 2 ^ (32 - n % 32) := by rw [← Nat.pow_add, show n % 32 + (32 - n % 32) = 32 from by omega]
    conv => lhs; rw [e]
    rw [Nat.mul_assoc, Nat.add_mul_mod_self_left]
  have h4 : val 4294967296 xs % 2 ^ n = val 4294967296 (xs.take (n / 32)) + 4294967296 ^ (n / 32) * (xs.getD (n / 32) 0 % 2 ^ (n % 32)) := by
    rw [← pow_32, Nat.mod_mul, ← h3, h1, Nat.add_mul_mod_self_left, Nat.mod_eq_of_lt h2, Nat.add_mul_div_left _ _ hp, Nat.div_eq_of_lt h2, Nat.zero_add]
  rw [h4]
  constructor
  · intro h0
    have : 4294967296 ^ (n / 32) * (xs.getD (n / 32) 0 % 2 ^ (n % 32)) = 0 := by omega
    rcases Nat.mul_eq_zero.1 this with h5 | h5
    · omega
    · exact ⟨by omega, h5⟩
  · rintro ⟨h5, h6⟩; rw [h5, h6]; simp
/-- all of it is rest -/
theorem right_all {xs : List Nat} {n : Nat} (h : xs.length ≤ n / 32) (hb : ∀ d ∈ xs, d < 4294967296) : val 4294967296 xs < 2 ^ n := by
  have h1 := val_lt (B := 4294967296) (by decide) xs hb
  refine Nat.lt_of_lt_of_le h1 ?_
  rw [← pow_32]
  exact Nat.le_trans (Nat.pow_le_pow_right (by decide) h) (Nat.le_mul_of_pos_right _ (Nat.pow_pos (by decide)))
theorem val_zero_step {B : Nat} (hB : 0 < B) {xs : List Nat} {k : Nat} (h : k < xs.length) : (val B (xs.take (k + 1)) = 0) ↔ (val B (xs.take k) = 0 ∧ xs.getD k 0 = 0) := by
  rw [val_take B h]
  have := Nat.pow_pos (n := k) hB
  constructor
  · intro h0
    have h1 : B ^ k * xs.getD k 0 = 0 := by omega
    rcases Nat.mul_eq_zero.1 h1 with h5 | h5
    · omega
    · exact ⟨by omega, h5⟩
  · rintro ⟨h1, h2⟩; rw [h1, h2]; simp
/-- the length -/
theorem bl_val {xs : List Nat} {k x : Nat} (hl : xs.length = k + 1) (hb : ∀ d ∈ xs, d < 4294967296) (hx : xs.getD k 0 = x) (h0 : x ≠ 0) : bl (val 4294967296 xs) = 32 * k + bl x := by
  have h1 := val_take 4294967296 (xs := xs) (i := k) (by omega)
  rw [List.take_of_length_le (by omega), hx] at h1
  have h2 := val_lt (B := 4294967296) (by decide) (xs.take k) (fun d hd => hb d (List.mem_of_mem_take hd))
  rw [List.length_take, Nat.min_eq_left (by omega), show (4294967296 : Nat) = 2 ^ 32 from rfl, ← Nat.pow_mul] at h2
  rw [h1, show (4294967296 : Nat) ^ k = 2 ^ (32 * k) from by rw [show (4294967296 : Nat) = 2 ^ 32 from rfl, ← Nat.pow_mul]]
  exact bl_low h0 h2
end Go.Proofs.YtikdhkmcdmnadaaGreatFmt

namespace Go.Proofs.YtikdhkmcdmnadaaGreatFmt

/-! ### the same for words of any width: B = 2^r * Q -/
theorem RightInv.stepG {B Q r : Nat} (hB : B = 2 ^ r * Q) {hs zs : List Nat} {k h g : Nat} (hI : RightInv B hs r k zs) (hk : k < hs.length) (hh : hs.getD k 0 = h) (hb : h < B) (hg : hs.getD (k + 1) 0 = g) (hp : 0 < B) :
    RightInv B hs r (k + 1) (zs.set k ((h + B * g) / 2 ^ r % B)) := by
  obtain ⟨h1, h2, h3⟩ := hI
  refine ⟨by simpa using h1, mem_set h2 (Nat.mod_lt _ hp), ?_⟩
  have e1 := drop_val B (hs := hs) (k := k) hk
  have e2 := drop_val' B hs (k + 1)
  rw [hh] at e1; rw [hg] at e2
  have e3 := right_num (2 ^ r) Q h g (val B (hs.drop (k + 1 + 1))) (Nat.pow_pos (by decide)) (by rw [← hB]; exact hb)
  rw [← hB, ← e2, ← e1] at e3
  rw [val_set _ (by omega), Nat.pow_succ, Nat.mul_assoc, Nat.add_assoc, ← Nat.mul_add, ← e3]
  exact h3
/-- what one word of a shift to the right is -/
theorem shr_word {P Q h g : Nat} (hP : 0 < P) (hQ : 0 < Q) (hh : h < P * Q) : (h + P * Q * g) / P % (P * Q) = h / P + g * Q % (P * Q) := by
  have e1 : (h + P * Q * g) / P = h / P + g * Q := by
    rw [Nat.mul_assoc, Nat.add_mul_div_left _ _ hP, Nat.mul_comm Q g]
  have e2 : h / P < Q := by rw [Nat.div_lt_iff_lt_mul hP, Nat.mul_comm]; exact hh
  rw [e1]
  have e3 : g * Q % (P * Q) = g % P * Q := by rw [Nat.mul_mod_mul_right]
  have e4 : g % P < P := Nat.mod_lt _ hP
  have e5 : h / P + g % P * Q < P * Q := by
    have := Nat.mul_le_mul_right Q e4
    rw [Nat.succ_mul] at this; omega
  have e6 : g * Q = g % P * Q + P * Q * (g / P) := by
    have := Nat.mod_add_div g P
    conv => lhs; rw [← this]
    rw [Nat.add_mul]; congr 1; simp only [Nat.mul_assoc, Nat.mul_comm, Nat.mul_left_comm]
  rw [e6, ← Nat.add_assoc, Nat.add_mul_mod_self_left, Nat.mod_eq_of_lt e5, Nat.add_mul_mod_self_left, Nat.mod_eq_of_lt (Nat.mul_lt_mul_of_pos_right e4 hQ)]
/-- a shift to the left, word by word -/
def lshD (B s : Nat) (xs : List Nat) : Nat → Nat
  | 0 => xs.getD 0 0 * 2 ^ s % B
  | j + 1 => xs.getD (j + 1) 0 * 2 ^ s % B + xs.getD j 0 * 2 ^ s / B
theorem lsh_val {B s : Nat} {xs zs : List Nat} : ∀ k, k ≤ xs.length → k ≤ zs.length → (∀ j, j < k → zs.getD j 0 = lshD B s xs j) → val B (zs.take k) + (if k = 0 then 0 else B ^ k * (xs.getD (k - 1) 0 * 2 ^ s / B)) = val B (xs.take k) * 2 ^ s
  | 0, _, _, _ => by simp [val]
  | k + 1, h1, h2, h => by
    have ih := lsh_val (B := B) (s := s) k (by omega) (by omega) (fun j hj => h j (by omega))
    rw [val_take B (by omega : k < zs.length), val_take B (by omega : k < xs.length), h k (by omega), if_neg (by omega), Nat.add_mul, ← ih, Nat.add_sub_cancel]
    have e := digit_step (B ^ k) B (xs.getD k 0 * 2 ^ s)
    rw [← Nat.pow_succ, Nat.succ_eq_add_one] at e
    have e2 : B ^ k * xs.getD k 0 * 2 ^ s = B ^ k * (xs.getD k 0 * 2 ^ s) := by rw [Nat.mul_assoc]
    cases k with
    | zero => simp only [lshD, if_true, Nat.pow_zero, Nat.one_mul] at *; omega
    | succ k =>
      rw [if_neg (by omega), Nat.add_sub_cancel]
      simp only [lshD, Nat.mul_add]
      omega
theorem val_cons_drop (B : Nat) (zs : List Nat) (q : Nat) (h : q ≤ zs.length) (h0 : ∀ j, j < q → zs.getD j 0 = 0) : val B zs = B ^ q * val B (zs.drop q) := by
  rw [val_split B zs q h]
  have : ∀ q, q ≤ zs.length → (∀ j, j < q → zs.getD j 0 = 0) → val B (zs.take q) = 0 := by
    intro q
    induction q with
    | zero => intro _ _; simp [val]
    | succ q ih => intro h1 h2; rw [val_take B h1, ih (by omega) (fun j hj => h2 j (by omega)), h2 q (by omega)]; simp
  rw [this q h h0]; simp
theorem pow_64 (n : Nat) : (18446744073709551616 : Nat) ^ (n / 64) * 2 ^ (n % 64) = 2 ^ n := by
  rw [show (18446744073709551616 : Nat) = 2 ^ 64 from rfl, ← Nat.pow_mul, ← Nat.pow_add, Nat.div_add_mod]
theorem right_floor64 {xs : List Nat} {n : Nat} (h : n / 64 ≤ xs.length) (hb : ∀ d ∈ xs, d < 18446744073709551616) :
    val 18446744073709551616 xs / 2 ^ n = val 18446744073709551616 (xs.drop (n / 64)) / 2 ^ (n % 64) := by
  have h1 := val_split 18446744073709551616 xs (n / 64) h
  have h2 := val_lt (B := 18446744073709551616) (by decide) (xs.take (n / 64)) (fun d hd => hb d (List.mem_of_mem_take hd))
  rw [List.length_take, Nat.min_eq_left h] at h2
  have hp : 0 < (18446744073709551616 : Nat) ^ (n / 64) := Nat.pow_pos (by decide)
  rw [h1, ← pow_64, ← Nat.div_div_eq_div_mul, Nat.add_mul_div_left _ _ hp, Nat.div_eq_of_lt h2, Nat.zero_add]
theorem right_all64 {xs : List Nat} {n : Nat} (h : xs.length ≤ n / 64) (hb : ∀ d ∈ xs, d < 18446744073709551616) : val 18446744073709551616 xs < 2 ^ n := by
  have h1 := val_lt (B := 18446744073709551616) (by decide) xs hb
  refine Nat.lt_of_lt_of_le h1 ?_
  rw [← pow_64]
  exact Nat.le_trans (Nat.pow_le_pow_right (by decide) h) (Nat.le_mul_of_pos_right _ (Nat.pow_pos (by decide)))
theorem val_take_drop (B : Nat) (xs : List Nat) (k n : Nat) (h : xs.length ≤ k + n) : (xs.drop k).take n = xs.drop k := List.take_of_length_le (by simp; omega)
end Go.Proofs.YtikdhkmcdmnadaaGreatFmt
