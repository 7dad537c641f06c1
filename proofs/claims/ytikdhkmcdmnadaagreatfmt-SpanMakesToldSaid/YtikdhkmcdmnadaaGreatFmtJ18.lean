/- Walks and plain laws of this seat's functions, part 18: N9 N10 N11. -/
import Derived.Test.YtikdhkmcdmnadaaGreatFmtJ17
set_option linter.unusedVariables false
set_option linter.unusedSimpArgs false
namespace Go.Proofs.YtikdhkmcdmnadaaGreatFmt
open Go.RowKit

/-- a whole number in words of its own: nil, or the first part of a block known whole -/
def OwnN (w : World) (B m : Nat) (v : Value) : Prop :=
  (v = .slice none 0 0 ∧ m = 0) ∨ ∃ g Z n, v = .slice (some ⟨g, 0, none⟩) n (List.length Z) ∧ B ≤ g ∧ Blk w g 109 (i64s Z) ∧ (∀ d ∈ Z, d < B64) ∧ n ≤ Z.length ∧ Z.length ≤ 1099511627776 ∧ Trimmed (Z.take n) ∧ val B64 (Z.take n) = m
theorem OwnN.keep {w w' : World} {B m : Nat} {v : Value} (h : OwnN w B m v) (hb : Below w.heap.size w w') : OwnN w' B m v := by
  rcases h with h | ⟨g, Z, n, h1, h2, h3, h4⟩
  · exact .inl h
  · exact .inr ⟨g, Z, n, h1, h2, h3.below' hb, h4⟩
theorem OwnN.lower {w : World} {B B' m : Nat} {v : Value} (h : OwnN w B m v) (hb : B' ≤ B) : OwnN w B' m v := by
  rcases h with h | ⟨g, Z, n, h1, h2, h3⟩
  · exact .inl h
  · exact .inr ⟨g, Z, n, h1, Nat.le_trans hb h2, h3⟩
/-- a number's words, to be read -/
theorem OwnN.get {w : World} {B m : Nat} {v : Value} (h : OwnN w B m v) : ∃ (A : Option Addr) (n c : Nat) (xs : List Nat), v = .slice A n c ∧ xs.length = n ∧ n ≤ c ∧ c ≤ 1099511627776 ∧ (∀ d ∈ xs, d < B64) ∧ Trimmed xs ∧ val B64 xs = m ∧
    (∀ a, A = some a → CellsAt w a xs ∧ a.block < w.heap.size ∧ B ≤ a.block ∧ ∃ ca ta, w.heap[a.block]? = some (.cells ca ta (0, 0))) ∧ (0 < n → ∃ a, A = some a) ∧ (∀ t base, u64.Row t w base A xs → True) := by
  rcases h with ⟨rfl, rfl⟩ | ⟨g, Z, n, rfl, h2, h3, h4, h5, h6, h7, h8⟩
  · exact ⟨none, 0, 0, [], rfl, rfl, by omega, by omega, by simp, .inl rfl, rfl, by simp, by omega, fun _ _ _ => trivial⟩
  · refine ⟨some ⟨g, 0, none⟩, n, Z.length, Z.take n, rfl, by simp; omega, h5, h6, fun d hd => h4 d (List.mem_of_mem_take hd), h7, h8, fun a ha => ?_, fun _ => ⟨_, rfl⟩, fun _ _ _ => trivial⟩
    cases ha
    exact ⟨CellsAt.blk h3 (pre := []) (post := Z.drop n) (by simp) rfl, h3.lt, h2, _, _, h3⟩
theorem OwnN.row {w : World} {B m : Nat} {v : Value} (h : OwnN w B m v) : ∃ (A : Option Addr) (n c : Nat) (xs : List Nat), v = .slice A n c ∧ xs.length = n ∧ n ≤ c ∧ c ≤ 1099511627776 ∧ u64.Row 109 w w.heap.size A xs ∧ Trimmed xs ∧ val B64 xs = m ∧ (0 < n → ∃ a, A = some a) ∧ (∀ a, A = some a → a.block < w.heap.size) := by
  rcases h with ⟨rfl, rfl⟩ | ⟨g, Z, n, rfl, h2, h3, h4, h5, h6, h7, h8⟩
  · exact ⟨none, 0, 0, [], rfl, rfl, by omega, by omega, Rd.Row.nil _ _ _ _ _, .inl rfl, rfl, by omega, by simp⟩
  · exact ⟨some ⟨g, 0, none⟩, n, Z.length, Z.take n, rfl, by simp; omega, h5, h6, u64row h3 h4 n, h7, h8, fun _ => ⟨_, rfl⟩, fun a ha => by cases ha; exact h3.lt⟩
/-- what is told of a block after 'norm' -/
theorem OwnN.norm {w : World} {g B : Nat} {Z : List Nat} {n m : Nat} (hb : Blk w g 109 (i64s Z)) (hg : B ≤ g) (hz : ∀ d ∈ Z, d < B64) (hn : n ≤ Z.length) (hl : Z.length ≤ 1099511627776) (hv : val B64 (Z.take n) = m) :
    OwnN w B m (.slice (some ⟨g, 0, none⟩) (trimLen (Z.take n) n) Z.length) := by
  have h1 := trimLen_le (Z.take n) n
  have e : Z.take (trimLen (Z.take n) n) = (Z.take n).take (trimLen (Z.take n) n) := by rw [List.take_take, Nat.min_eq_left h1]
  refine .inr ⟨g, Z, _, rfl, hg, hb, hz, by omega, hl, ?_, ?_⟩
  · rw [e]; exact trimLen_trimmed _ _ (by simp; omega)
  · rw [e, trimLen_val B64 _ _ (by simp; omega), List.take_of_length_le (l := Z.take n) (by rw [List.length_take]; exact Nat.min_le_left _ _)]; exact hv
theorem zeros_bd (n : Nat) : ∀ d ∈ List.replicate n 0, d < B64 := fun d hd => by
  rw [List.eq_of_mem_replicate hd]; decide

set_option maxHeartbeats 2000000 in
set_option maxRecDepth 100000 in
theorem nrsh_calls (x : Value) (m s : Nat) (w : World) (B : Nat) (hx : OwnN w B m x) (hs0 : 0 < s) (hs : s ≤ 1099511627776) (L : Nat) (hmL : m < B64 ^ L) (hL : L ≤ 4294967296) :
    Calls Tryz.prog 168 #[.slice none 0 0, x, .int .u64 s] w fun e w' => ∃ v, e = .returned v ∧ OwnN w' w.heap.size (m / 2 ^ s) v ∧ Below w.heap.size w w' := by
  obtain ⟨A, l, c, xs, rfl, hl, hlc, hcb, hA, ht, hm, hne, hlt⟩ := hx.row
  have hxl : xs.length ≤ 4294967296 := Nat.le_trans (len_le_of_val (B := B64) (by decide) ht (by rw [hm]; exact hmL)) hL
  clear hmL hL
  have hsz : ((s : Int) == 0) = false := by simp; omega
  obtain ⟨q, hq⟩ : ∃ q, q = s / 64 := ⟨_, rfl⟩
  have hq1 : (s : Int) / 64 = (q : Int) := by omega
  obtain ⟨r, hr⟩ : ∃ r, r = s % 64 := ⟨_, rfl⟩
  have hr1 : (s : Int) % 64 = (r : Int) := by omega
  have hrb : r < 64 := by omega
  have hqb : q ≤ 1099511627776 := by omega
  have HQ := Lib.hid hq
  have HR := Lib.hid hr
  have HM := Lib.hid hm
  subst hl
  clear hq hr hm
  by_cases hql : xs.length ≤ q
  · have h1 : ((xs.length : Int) - (q : Int) ≤ 0) := by omega
    go_enter Tryz.func168, Tryz.ntmps168
    go_wp2
    go_ret
    refine ⟨_, rfl, .inl ⟨rfl, ?_⟩, Below.refl _ _⟩
    rw [← HM.out]
    exact Nat.div_eq_of_lt (right_all64 (by rw [← HQ.out]; exact hql) (u64bd hA))
  · have h1 : ¬ ((xs.length : Int) - (q : Int) ≤ 0) := by omega
    obtain ⟨n, hn⟩ : ∃ n, n = xs.length - q := ⟨_, rfl⟩
    have hn1 : (xs.length : Int) - (q : Int) = (n : Int) := by omega
    have hn2 : (xs.length : Int) - (n : Int) = (q : Int) := by omega
    have hn0 : 0 < n := by omega
    obtain ⟨a, rfl⟩ := hne (by omega)
    have hab := hlt a rfl
    have hsl := fun W => slice_from 80 (by kernel_rfl) W (some a) xs.length c q (q : Int) rfl (by omega) hlc
    rw [show adv (some a) q c = some (a.add q) from by unfold adv; rw [if_neg (by omega)]; rfl, show xs.length - q = n from hn.symm] at hsl
    have HMK := Lib.hid (fun W => nmake_new n W hn0 (by omega) none 0 0 hn0)
    have hln : xs.length = q + n := by omega
    have HFL := Lib.hid (right_floor64 (xs := xs) (n := s) (by rw [← HQ.out]; omega) (u64bd hA))
    have HLN := Lib.hid hln
    have HN1 := Lib.hid hn
    clear hn hln
    go_enter Tryz.func168, Tryz.ntmps168
    go_wp2_with fail
    refine (HMK.out _).mono ?_
    rintro e w' ⟨k, hk1, hk2, rfl, rfl⟩
    have hB0 := Blk.new w (madeCells #[.int .u64 0] k) 109
    rw [made64] at hB0
    have HB0 := Lib.hid hB0
    clear hB0
    have hA1 := hA.below (below_new (Below.refl _ _) (.cells (madeCells #[.int .u64 0] k) 109))
    have hfin : ∀ (w2 : World) (ys : List Nat), ys.length = n → (∀ d ∈ ys, d < B64) → Blk w2 w.heap.size 109 (i64s (ys ++ (List.replicate k 0).drop n)) → val B64 ys = m / 2 ^ s →
        Calls Tryz.prog 99 #[.slice (some ⟨w.heap.size, 0, none⟩) n k] w2 fun e w' => e = .returned (.slice (some ⟨w.heap.size, 0, none⟩) (trimLen ys n) k) ∧ w2 = w' ∧ OwnN w2 w.heap.size (m / 2 ^ s) (.slice (some ⟨w.heap.size, 0, none⟩) (trimLen ys n) k) := by
      intro w2 ys hyl hyb hb hv
      have hl2 : (ys ++ (List.replicate k 0).drop n).length = k := by simp; omega
      have hzb : ∀ d ∈ ys ++ (List.replicate k 0).drop n, d < B64 := fun d hd => by
        rcases List.mem_append.1 hd with hd | hd
        · exact hyb d hd
        · exact zeros_bd _ d (List.mem_of_mem_drop hd)
      have e : (ys ++ (List.replicate k 0).drop n).take n = ys := by rw [List.take_append_of_le_length (by omega), List.take_of_length_le (by omega)]
      have hr := u64row (base := 0) hb hzb n
      rw [e] at hr
      refine (norm_calls _ n k _ _ ys w2 hyl hr (by omega) hk1).mono ?_
      rintro e' w' ⟨rfl, rfl⟩
      have := OwnN.norm (B := w.heap.size) (n := n) (m := m / 2 ^ s) hb (Nat.le_refl _) hzb (by omega) (by omega) (by rw [e]; exact hv)
      rw [e, hl2] at this
      exact ⟨rfl, rfl, this⟩
    have HFIN := Lib.hid hfin
    clear hfin
    by_cases hr0 : r = 0
    · subst hr0
      have hcp := fun ty => copy64 HB0.out 0 n k (c - q) 80 80 ty (.inl rfl) (some (a.add q)) (xs.drop q) (by simp; have := HLN.out; omega) (fun j hj => ⟨_, rfl, (CellsAt.row hA1).drop q j (by simp; have := HLN.out; omega)⟩) (by simp; omega) _ (.inl rfl)
      obtain ⟨R, hR⟩ : ∃ R, R = (i64s ((List.replicate k 0).take 0 ++ (xs.drop q ++ (List.replicate k 0).drop (0 + n)))).toArray := ⟨_, rfl⟩
      simp only [← hR] at hcp
      have HRR := Lib.hid hR
      clear hR
      have hz0 : ((0 : Nat) : Int) = 0 := rfl
      go_wp2_with fail
      have hb2 := HB0.out.setRow (i64s ((List.replicate k 0).take 0 ++ (xs.drop q ++ (List.replicate k 0).drop (0 + n))))
      rw [← HRR.out, List.take_zero, List.nil_append, Nat.zero_add] at hb2
      refine (HFIN.out _ (xs.drop q) (by simp; have := HLN.out; omega) (fun d hd => u64bd hA d (List.mem_of_mem_drop hd)) hb2 (by
        have := HFL.out
        rw [← HR.out, ← HQ.out, Nat.pow_zero, Nat.div_one] at this
        rw [← HM.out]; exact this.symm)).mono ?_
      rintro e w' ⟨rfl, rfl, hO⟩
      have HO := Lib.hid hO
      clear hO
      go_wp2
      go_ret
      exact ⟨_, rfl, HO.out, below_setRow (below_new (Below.refl _ _) _) (Nat.le_refl _) _⟩
    · have hrz : ((r : Int) == 0) = false := by simp; omega
      have HRS := Lib.hid (rshVU_calls (some (a.add q)) n (c - q) k w.heap.size r _ _ (xs.drop q) (List.replicate k 0) (w.alloc (.cells (madeCells #[.int .u64 0] k) 109)) (by simp; have := HLN.out; omega) (u64drop hA1 q) HB0.out (by simp; omega) (zeros_bd _) (by omega) hrb hn0 (by omega) (fun a' ha' => by cases ha'; rw [Addr.add_block]; exact hab))
      go_wp2_with fail
      refine HRS.out.mono ?_
      rintro e w2 ⟨v, ys, rfl, hb2, hyl, hyb, hyv, hw2⟩
      have HB2 := Lib.hid hb2
      have HYB := Lib.hid hyb
      have HYV := Lib.hid hyv
      clear hb2 hyb hyv
      go_wp2_with fail
      refine (HFIN.out _ ys hyl HYB.out HB2.out (by
        rw [HYV.out, ← HM.out, HR.out, HQ.out]; exact HFL.out.symm)).mono ?_
      rintro e w' ⟨rfl, rfl, hO⟩
      have HO := Lib.hid hO
      clear hO
      go_wp2
      go_ret
      exact ⟨_, rfl, HO.out, (below_new (Below.refl _ _) _).trans hw2⟩
end Go.Proofs.YtikdhkmcdmnadaaGreatFmt

namespace Go.Proofs.YtikdhkmcdmnadaaGreatFmt
open Go.RowKit

theorem slice_mid (T : Nat) (hT : Tryz.prog.underlying T = some (.slice 109)) (W : World) (A : Option Addr) (n c k j : Nat) (i i' : Int) (hi : i = k) (hj : i' = j) (hk : k ≤ j) (hnc : j ≤ c) :
    (Instr.slice T (.slice A n c) (some (.int .i64 i)) (some (.int .i64 i')) none).run Tryz.prog W = .ok (.slice (adv A k c) (j - k) (c - k)) W := by
  subst hi hj
  obtain ⟨u, hu, _, hs, _⟩ := word_info
  simp [Instr.slice, run_underlying hT, Instr.sliceBounds, Instr.sliceBound, asIntOf, hk, hnc, sizeOf, typeInfo, hu, hs, adv]
theorem adv_zero (g o c : Nat) (hc : 0 < c) : adv (some ⟨g, o, none⟩) 0 c = some ⟨g, o, none⟩ := by
  unfold adv; rw [if_neg (by omega)]; rfl
theorem adv_at (g o k c : Nat) (hc : k < c) : adv (some ⟨g, o, none⟩) k c = some ⟨g, o + k, none⟩ := by
  unfold adv; rw [if_neg (by omega)]
  simp [Addr.add]

theorem OwnN.addr {w : World} {B m : Nat} {v : Value} (h : OwnN w B m v) : ∃ (A : Option Addr) (n c : Nat) (xs : List Nat), v = .slice A n c ∧ xs.length = n ∧ n ≤ c ∧ c ≤ 1099511627776 ∧ (∀ d ∈ xs, d < B64) ∧ Trimmed xs ∧ val B64 xs = m ∧
    (0 < n → ∃ g, A = some ⟨g, 0, none⟩ ∧ CellsAt w ⟨g, 0, none⟩ xs ∧ g < w.heap.size ∧ ∃ ca ta, w.heap[g]? = some (.cells ca ta (0, 0))) := by
  rcases h with ⟨rfl, rfl⟩ | ⟨g, Z, n, rfl, h2, h3, h4, h5, h6, h7, h8⟩
  · exact ⟨none, 0, 0, [], rfl, rfl, by omega, by omega, by simp, .inl rfl, rfl, by omega⟩
  · exact ⟨some ⟨g, 0, none⟩, n, Z.length, Z.take n, rfl, by simp; omega, h5, h6, fun d hd => h4 d (List.mem_of_mem_take hd), h7, h8, fun _ => ⟨g, rfl, CellsAt.blk h3 (pre := []) (post := Z.drop n) (by simp) rfl, h3.lt, _, _, h3⟩⟩
/-- memory for n words: the old one, if there is room, or new one -/
theorem nmake_dest (zv : Value) (mz n : Nat) (w : World) (B : Nat) (hz : OwnN w B mz zv) (hB : B ≤ w.heap.size) (h0 : 0 < n) (hn : n ≤ 8589934592) :
    Calls Tryz.prog 97 #[zv, .int .i64 n] w fun e w' => ∃ (g : Nat) (Z : List Nat), e = .returned (.slice (some ⟨g, 0, none⟩) n Z.length) ∧ B ≤ g ∧ Blk w' g 109 (i64s Z) ∧ (∀ d ∈ Z, d < B64) ∧ n ≤ Z.length ∧ Z.length ≤ 1099511627776 ∧ Below w.heap.size w w' ∧ (w.heap.size ≤ g ∨ w' = w) := by
  have fresh : ∀ (A : Option Addr) (l c : Nat), c < n → Calls Tryz.prog 97 #[.slice A l c, .int .i64 n] w fun e w' => ∃ (g : Nat) (Z : List Nat), e = .returned (.slice (some ⟨g, 0, none⟩) n Z.length) ∧ B ≤ g ∧ Blk w' g 109 (i64s Z) ∧ (∀ d ∈ Z, d < B64) ∧ n ≤ Z.length ∧ Z.length ≤ 1099511627776 ∧ Below w.heap.size w w' ∧ (w.heap.size ≤ g ∨ w' = w) := by
    intro A l c hc
    refine (nmake_new n w h0 (by omega) A l c hc).mono ?_
    rintro e w' ⟨k, hk1, hk2, rfl, rfl⟩
    have hB0 := Blk.new w (madeCells #[.int .u64 0] k) 109
    rw [made64] at hB0
    exact ⟨_, _, by rw [List.length_replicate], hB, hB0, zeros_bd k, by simp; omega, by simp; omega, below_new (Below.refl _ _) _, .inl (Nat.le_refl _)⟩
  rcases hz with ⟨rfl, rfl⟩ | ⟨g, Z, l, rfl, h2, h3, h4, h5, h6, h7, h8⟩
  · exact fresh none 0 0 h0
  · rcases Nat.lt_or_ge Z.length n with h | h
    · exact fresh _ _ _ h
    · refine (nmake_fit _ l Z.length n w h h6).mono ?_
      rintro e w' ⟨rfl, rfl⟩
      exact ⟨g, Z, rfl, h2, h3, h4, h, h6, Below.refl _ _, .inr rfl⟩
/-- no words at all -/
theorem OwnN.empty {w : World} {B mz : Nat} {A : Option Addr} {n c : Nat} (h : OwnN w B mz (.slice A n c)) : OwnN w B 0 (.slice A 0 c) := by
  rcases h with ⟨h, _⟩ | ⟨g, Z, l, h1, h2, h3, h4, h5, h6, h7, h8⟩
  · injection h with h1 h2 h3; subst h1 h3; exact .inl ⟨rfl, rfl⟩
  · injection h1 with h1 h2' h3'; subst h1 h3'
    exact .inr ⟨g, Z, 0, rfl, h2, h3, h4, by omega, h6, .inl rfl, rfl⟩
theorem OwnN.shape {w : World} {B mz : Nat} {v : Value} (h : OwnN w B mz v) : ∃ A n c, v = .slice A n c ∧ c ≤ 1099511627776 := by
  rcases h with ⟨h, _⟩ | ⟨g, Z, l, h1, h2, h3, h4, h5, h6, h7, h8⟩
  · exact ⟨_, _, _, h, by omega⟩
  · exact ⟨_, _, _, h1, h6⟩

set_option maxHeartbeats 1000000 in
theorem nset_calls (zv x : Value) (mz m : Nat) (w : World) (B B1 : Nat) (hz : OwnN w B mz zv) (hB : B ≤ w.heap.size) (hx : OwnN w B1 m x) (L : Nat) (hmL : m < B64 ^ L) (hL : L ≤ 4294967296) :
    Calls Tryz.prog 93 #[zv, x] w fun e w' => ∃ v, e = .returned v ∧ OwnN w' B m v ∧ Below B w w' := by
  obtain ⟨A, n, c, xs, rfl, hl, hlc, hcb, hxb, ht, hm, hA⟩ := hx.addr
  have hxl : n ≤ 4294967296 := by rw [← hl]; exact Nat.le_trans (len_le_of_val (B := B64) (by decide) ht (by rw [hm]; exact hmL)) hL
  clear hmL hL
  have HM := Lib.hid hm
  clear hm
  rcases Nat.eq_zero_or_pos n with h0 | h0
  · subst h0
    obtain rfl := List.eq_nil_of_length_eq_zero hl
    obtain ⟨zA, zn, zc, rfl, hzc⟩ := hz.shape
    have HMK := Lib.hid (fun W => nmake_fit zA zn zc 0 W (by omega) hzc)
    have HE := Lib.hid hz.empty
    have hcp := fun W ty => run_copy_none (P := Tryz.prog) W 80 80 ty 109 zA A 0 zc 0 c (by kernel_rfl) (by kernel_rfl) rfl
    go_enter Tryz.func93, Tryz.ntmps93
    go_wp2_with fail
    refine (HMK.out _).mono ?_
    rintro e w' ⟨rfl, rfl⟩
    go_wp2
    go_ret
    refine ⟨_, rfl, ?_, Below.refl _ _⟩
    rw [← HM.out]; exact HE.out
  · obtain ⟨g1, rfl, hA1, hgl, _⟩ := hA h0
    have HMK := Lib.hid (nmake_dest zv mz n w B hz hB h0 (by omega))
    obtain ⟨zA, zn, zc, rfl, hzc⟩ := hz.shape
    go_enter Tryz.func93, Tryz.ntmps93
    go_wp2_with fail
    refine HMK.out.mono ?_
    rintro e w1 ⟨g, Z, rfl, hBg, hZ, hZb, hnZ, hZl, hw1, hq⟩
    have hcp := fun ty => copy64 hZ 0 n Z.length c 80 80 ty (.inl rfl) (some ⟨g1, 0, none⟩) xs hl (fun j hj => ⟨_, rfl, (hA1.below hw1 hgl) j (by omega)⟩) (by omega) _ (.inl rfl)
    have hb2 := hZ.setRow (i64s (Z.take 0 ++ (xs ++ Z.drop (0 + n))))
    obtain ⟨R, hR⟩ : ∃ R, R = (i64s (Z.take 0 ++ (xs ++ Z.drop (0 + n)))).toArray := ⟨_, rfl⟩
    simp only [← hR] at hcp hb2
    have HR := Lib.hid hR
    rw [List.take_zero, List.nil_append, Nat.zero_add] at hb2
    have HB2 := Lib.hid hb2
    have hl2 : (xs ++ Z.drop n).length = Z.length := by simp; omega
    have HL2 := Lib.hid hl2
    have HW := Lib.hid hw1
    clear hR hb2 hl2 hZ hw1
    go_wp2
    go_ret
    refine ⟨_, rfl, .inr ⟨g, xs ++ Z.drop n, n, by rw [HL2.out]; rfl, hBg, HB2.out, fun d hd => ?_, by rw [HL2.out]; exact hnZ, by rw [HL2.out]; omega, ?_, ?_⟩, below_setRow (HW.out.mono hB) hBg _⟩
    · rcases List.mem_append.1 hd with hd | hd
      · exact hxb d hd
      · exact hZb d (List.mem_of_mem_drop hd)
    · rw [List.take_append_of_le_length (by omega), List.take_of_length_le (by omega)]; exact ht
    · rw [List.take_append_of_le_length (by omega), List.take_of_length_le (by omega)]; exact HM.out
end Go.Proofs.YtikdhkmcdmnadaaGreatFmt

namespace Go.Proofs.YtikdhkmcdmnadaaGreatFmt
open Go.RowKit

theorem slice_to (T : Nat) (hT : Tryz.prog.underlying T = some (.slice 109)) (W : World) (A : Option Addr) (n c j : Nat) (i : Int) (hi : i = j) (hj : j ≤ c) :
    (Instr.slice T (.slice A n c) none (some (.int .i64 i)) none).run Tryz.prog W = .ok (.slice A j c) W := by
  subst hi
  obtain ⟨u, hu, _, hs, _⟩ := word_info
  simp [Instr.slice, run_underlying hT, Instr.sliceBounds, Instr.sliceBound, asIntOf, hj, sizeOf, typeInfo, hu, hs]
  intro _
  cases A with
  | none => rfl
  | some a => simp [Addr.add]
theorem slice_mid' (T : Nat) (hT : Tryz.prog.underlying T = some (.slice 109)) (W : World) (g o n c k j : Nat) (i i' : Int) (hi : i = k) (hj : i' = j) (hk : k < j) (hnc : j ≤ c) :
    (Instr.slice T (.slice (some ⟨g, o, none⟩) n c) (some (.int .i64 i)) (some (.int .i64 i')) none).run Tryz.prog W = .ok (.slice (some ⟨g, o + k, none⟩) (j - k) (c - k)) W := by
  rw [slice_mid T hT W _ n c k j i i' hi hj (by omega) hnc, adv_at g o k c (by omega)]
theorem slice_from' (T : Nat) (hT : Tryz.prog.underlying T = some (.slice 109)) (W : World) (g o n c k : Nat) (i : Int) (hi : i = k) (hk : k < n) (hnc : n ≤ c) :
    (Instr.slice T (.slice (some ⟨g, o, none⟩) n c) (some (.int .i64 i)) none none).run Tryz.prog W = .ok (.slice (some ⟨g, o + k, none⟩) (n - k) (c - k)) W := by
  rw [slice_from T hT W _ n c k i hi (by omega) hnc, adv_at g o k c (by omega)]
theorem CellsAt.drop' {w : World} {g : Nat} {xs : List Nat} (h : CellsAt w ⟨g, 0, none⟩ xs) (k : Nat) : CellsAt w ⟨g, k, none⟩ (xs.drop k) := by
  have := h.drop k
  rwa [show (⟨g, 0, none⟩ : Addr).add k = ⟨g, k, none⟩ from by unfold Addr.add; split <;> simp_all] at this
theorem take_take_self {Z : List Nat} {n : Nat} : Z.take n = (Z.take n).take n := by rw [List.take_take, Nat.min_self]
/-- two sums one behind the other -/
theorem add_two {B : Nat} {xs ys rs rs2 : List Nat} {n c v : Nat} (hn : n ≤ xs.length) (hy : ys.length = n) (hr : rs.length = n) (h1 : val B rs + B ^ n * c = val B (xs.take n) + val B ys) (h2 : val B rs2 + B ^ (xs.length - n) * v = val B (xs.drop n) + c) :
    val B (rs ++ rs2) + B ^ xs.length * v = val B xs + val B ys := by
  have e := val_split B xs n hn
  have e3 : B ^ xs.length = B ^ n * B ^ (xs.length - n) := by rw [← Nat.pow_add]; congr 1; omega
  have e4 := congrArg (B ^ n * ·) h2
  simp only [Nat.mul_add] at e4
  rw [val_append, hr, e3, Nat.mul_assoc, e]
  omega

set_option maxHeartbeats 4000000 in
set_option maxRecDepth 100000 in
theorem nadd_ge (zv x y : Value) (mz m1 m2 : Nat) (w : World) (B B1 B2 : Nat) (hz : OwnN w B mz zv) (hB : B ≤ w.heap.size) (hx : OwnN w B1 m1 x) (hy : OwnN w B2 m2 y) (L : Nat) (hmL : m1 < B64 ^ L) (hL : L ≤ 4294967296)
    (hle : ∀ A n c A' n' c', x = .slice A n c → y = .slice A' n' c' → n' ≤ n) :
    Calls Tryz.prog 152 #[zv, x, y] w fun e w' => ∃ v, e = .returned v ∧ OwnN w' B (m1 + m2) v ∧ Below B w w' := by
  have hset := Lib.hid (fun W (hW : ∃ q, W = w.drewN q) => nset_calls zv x mz m1 W B B1 (by obtain ⟨q, rfl⟩ := hW; exact hz) (by obtain ⟨q, rfl⟩ := hW; exact hB) (by obtain ⟨q, rfl⟩ := hW; exact hx) L hmL hL)
  obtain ⟨X, m, cx, xs, rfl, hxl, hmc, hcx, hxb, hxt, hxm, hX⟩ := hx.addr
  obtain ⟨Y, n, cy, ys, rfl, hyl, hnc, hcy, hyb, hyt, hym, hY⟩ := hy.addr
  have hnm := hle _ _ _ _ _ _ rfl rfl
  have hml : m ≤ 4294967296 := by rw [← hxl]; exact Nat.le_trans (len_le_of_val (B := B64) (by decide) hxt (by rw [hxm]; exact hmL)) hL
  clear hmL hL hle
  have HXM := Lib.hid hxm
  have HYM := Lib.hid hym
  have HXB := Lib.hid hxb
  have HYB := Lib.hid hyb
  clear hxm hym hxt hyt hxb hyb
  have hnmz : ¬ ((m : Int) < (n : Int)) := by omega
  rcases Nat.eq_zero_or_pos n with h0 | h0
  · subst h0
    obtain rfl := List.eq_nil_of_length_eq_zero hyl
    rcases Nat.eq_zero_or_pos m with h1 | h1
    · subst h1
      obtain rfl := List.eq_nil_of_length_eq_zero hxl
      have HE := Lib.hid hz
      obtain ⟨zA, zn, zc, rfl, hzc⟩ := hz.shape
      have HE := Lib.hid hz.empty
      have hsl := fun W => slice_to 80 (by kernel_rfl) W zA zn zc 0 0 rfl (by omega)
      clear hset
      go_enter Tryz.func152, Tryz.ntmps152
      go_wp2
      go_ret
      refine ⟨_, rfl, ?_, Below.refl _ _⟩
      rw [← HXM.out, ← HYM.out]; exact HE.out
    · have hm0 : ((m : Int) == 0) = false := by simp; omega
      have HSE := Lib.hid (hset.out w ⟨0, rfl⟩)
      obtain ⟨zA, zn, zc, rfl, hzc⟩ := hz.shape
      clear hset
      go_enter Tryz.func152, Tryz.ntmps152
      go_wp2_with fail
      refine HSE.out.mono ?_
      rintro e w' ⟨v, rfl, hv, hw⟩
      have HV := Lib.hid hv
      clear hv
      go_wp2
      go_ret
      refine ⟨_, rfl, ?_, hw⟩
      rw [← HYM.out]; exact HV.out
  · obtain ⟨gx, rfl, hXc, hgx, ⟨xca, xta, hxp⟩⟩ := hX (by omega)
    obtain ⟨gy, rfl, hYc, hgy, _⟩ := hY h0
    clear hset
    have hm0 : ((m : Int) == 0) = false := by simp; omega
    have hn0 : ((n : Int) == 0) = false := by simp; omega
    have HMK := nmake_dest zv mz (m + 1) w B hz hB (by omega) (by omega)
    rw [show ((m + 1 : Nat) : Int) = (m : Int) + 1 from by omega] at HMK
    replace HMK := Lib.hid HMK
    obtain ⟨zA, zn, zc, rfl, hzc⟩ := hz.shape
    have hwm : IntKind.i64.wrap ((m : Int) + 1) = (m : Int) + 1 := IntWalk.i64_in _ (by omega)
    go_enter Tryz.func152, Tryz.ntmps152
    go_wp2_with fail
    refine HMK.out.mono ?_
    rintro e w1 ⟨g, Z, rfl, hBg, hZ, hZb, hnZ, hZl, hw1, hq⟩
    have hX1 := hXc.below hw1 hgx
    have hY1 := hYc.below hw1 hgy
    have hXe : gx = g → xs = Z.take m := fun h => by
      subst h; rw [hX1.eq hZ (by omega), hxl]
    have hYe : gy = g → ys = Z.take n := fun h => by
      subst h; rw [hY1.eq hZ (by omega), hyl]
    have hxtl : (xs.take n).length = n := by simp; omega
    have HADD := Lib.hid (fun (W : World) (hW : ∃ q, W = w1.drewN q) => addVV_calls (some ⟨gx, 0, none⟩) (some ⟨gy, 0, none⟩) n Z.length cx cy g 0 (xs.take n) ys [] (Z.take n) (Z.drop n) W hxtl hyl
      (by obtain ⟨q, rfl⟩ := hW; rw [List.nil_append, List.take_append_drop]; exact hZ) (by simp; omega) rfl (by rw [List.nil_append, List.take_append_drop]; exact hZb)
      (by
        obtain ⟨q, rfl⟩ := hW
        refine Src.cells (show CellsAt (w1.drewN q) _ _ from hX1.take n) rfl ?_
        rw [hxtl]
        by_cases h : gx = g
        · exact .inl ⟨by rw [h]; rfl, by rw [hXe h, List.take_take, List.take_take, Nat.min_eq_left hnm, Nat.min_self]⟩
        · exact .inr h)
      (by
        obtain ⟨q, rfl⟩ := hW
        refine Src.cells (show CellsAt (w1.drewN q) _ _ from hY1) rfl ?_
        rw [hyl]
        by_cases h : gy = g
        · exact .inl ⟨by rw [h]; rfl, by rw [List.take_take, Nat.min_self]; exact hYe h⟩
        · exact .inr h)
      (fun d hd => HXB.out d (List.mem_of_mem_take hd)) HYB.out (by omega) (by omega))
    have hsl1 := fun W => slice_to 80 (by kernel_rfl) W (some ⟨g, 0, none⟩) (m + 1) Z.length n (n : Int) rfl (by omega)
    have hsl2 := fun W => slice_to 80 (by kernel_rfl) W (some ⟨gx, 0, none⟩) m cx n (n : Int) rfl (by omega)
    have hsl3 := fun W => slice_to 80 (by kernel_rfl) W (some ⟨gy, 0, none⟩) n cy n (n : Int) rfl (by omega)
    go_wp2
    go_region_held3 (fun w' => True) (first | exact True.intro) (((first | go_at_call 124 | go_at_call 57); refine (HADD.out _ (by first | exact ⟨_, rfl⟩ | exact ⟨1, rfl⟩)).mono ?_; rintro e w2 ⟨v, rs, rfl, hb2, hI, hO2⟩))
    rw [List.nil_append] at hb2
    have hrl := hI.len
    have hIe := hI.eq
    rw [List.take_take, Nat.min_self, List.take_of_length_le (l := ys) (by omega)] at hIe
    have hv1 : v ≤ 1 := by rcases hI.c1 with h | h <;> rw [h] <;> decide
    have hrb := hI.bd
    have hO2' : Only g w1 w2 := ⟨(show Below g w1 w1.drew from (Below.refl _ _).drew).trans hO2.below, hO2.size, hO2.block⟩
    clear hO2
    -- what is left, alike in both cases
    have hfin : ∀ (w3 : World) (rs2 : List Nat) (v2 : Nat), v2 ≤ 1 → rs2.length = m - n → (∀ d ∈ rs2, d < B64) → val B64 rs2 + B64 ^ (m - n) * v2 = val B64 (xs.drop n) + v → Blk w3 g 109 (i64s ((rs ++ rs2) ++ Z.drop m)) → Only g w1 w3 →
        w3.frozen? ⟨g, m, none⟩ = false ∧ (∃ z : Nat, w3.cell? ⟨g, m, none⟩ = some (.int .u64 z)) ∧
        Calls Tryz.prog 99 #[.slice (some ⟨g, 0, none⟩) (m + 1) Z.length] (w3.setCell ⟨g, m, none⟩ (.int .u64 v2)) fun e w' => ∃ v, e = .returned v ∧ OwnN w' B (m1 + m2) v ∧ Below B w w' := by
      intro w3 rs2 v2 hv2 hr2 hr2b hr2e hb3 hO3
      have hzl : ((rs ++ rs2) ++ Z.drop m).length = Z.length := by simp; omega
      have hzb : ∀ d ∈ (rs ++ rs2) ++ Z.drop m, d < B64 := fun d hd => by
        rcases List.mem_append.1 hd with hd | hd
        · rcases List.mem_append.1 hd with hd | hd
          · exact hrb d hd
          · exact hr2b d hd
        · exact hZb d (List.mem_of_mem_drop hd)
      obtain ⟨z, hz1, hz2, _, _⟩ := hb3.at64 (i := m) (by omega) hzb
      refine ⟨hz2, ⟨z, hz1⟩, ?_⟩
      have hb4 := hb3.set64 m v2 _ rfl
      have hzl4 : (((rs ++ rs2) ++ Z.drop m).set m v2).length = Z.length := by rw [List.length_set]; exact hzl
      have hzb4 := mem_set (k := m) hzb (show v2 < B64 from by simp only [B64]; omega)
      have hrrl : (rs ++ rs2).length = m := by simp; omega
      have e1 : (((rs ++ rs2) ++ Z.drop m).set m v2).take (m + 1) = (rs ++ rs2) ++ [v2] := by
        rw [set_take_succ (by omega), List.take_left' hrrl]
      have hr := u64row (base := 0) hb4 hzb4 (m + 1)
      refine (norm_calls _ (m + 1) Z.length _ _ _ _ (by simp; omega) hr (by omega) hnZ).mono ?_
      rintro e' w' ⟨rfl, rfl⟩
      have h6 := OwnN.norm (B := B) (n := m + 1) (m := m1 + m2) hb4 hBg hzb4 (by omega) (by omega) (by
        rw [e1, val_append, hrrl]
        have h7 := add_two (B := B64) (by omega) hyl hrl hIe (by rw [hxl]; exact hr2e)
        rw [hxl, HXM.out, HYM.out] at h7
        simp only [val, Nat.mul_zero, Nat.add_zero]
        exact h7)
      rw [hzl4] at h6
      exact ⟨_, rfl, h6, (hw1.mono hB).trans ((hO3.setCell rfl _).below.mono hBg)⟩
    have HFIN := Lib.hid hfin
    clear hfin
    by_cases hmn : m = n
    · subst hmn
      obtain ⟨hz2, ⟨z, hz1⟩, hN⟩ := HFIN.out w2 [] v hv1 (by simp) (by simp) (by rw [Nat.sub_self, List.drop_of_length_le (by omega)]; simp [val]) (by rw [List.append_nil]; exact hb2) hO2'
      have HN := Lib.hid hN
      clear hN
      go_wp2_with fail
      refine HN.out.mono ?_
      rintro e w' ⟨u, rfl, hu, hw⟩
      have HU := Lib.hid hu
      clear hu
      go_wp2
      go_ret
      exact ⟨_, rfl, HU.out, hw⟩
    · have hnm' : n < m := by omega
      have hgt : (n : Int) < (m : Int) := by omega
      have hdl : (xs.drop n).length = m - n := by simp; omega
      have hO2'' := hO2'
      have HADW := Lib.hid (fun (W : World) (hW : ∃ q, W = w2.drewN q) => addVW_calls ⟨gx, n, none⟩ (m - n) v (Z.length - n) (cx - n) g n (xs.drop n) rs ((Z.drop n).take (m - n)) (Z.drop m) W hdl
        (by
          obtain ⟨q, rfl⟩ := hW
          have e : Z.drop n = (Z.drop n).take (m - n) ++ Z.drop m := by
            rw [show Z.drop m = (Z.drop n).drop (m - n) from by rw [List.drop_drop]; congr 1; omega, List.take_append_drop]
          rw [← e]; exact hb2) (by simp; omega) hrl
        (by
          intro d hd
          rcases List.mem_append.1 hd with hd | hd
          · exact hrb d hd
          · rcases List.mem_append.1 hd with hd | hd
            · exact hZb d (List.mem_of_mem_drop (List.mem_of_mem_take hd))
            · exact hZb d (List.mem_of_mem_drop hd))
        (by
          obtain ⟨q, rfl⟩ := hW
          by_cases h : gx = g
          · subst h
            have := CellsAt.blk (w := w2) (o := n) (xs := xs.drop n) (pre := rs) (post := Z.drop m) hb2 (by
              rw [hXe rfl, List.drop_take]
              congr 1
              rw [show Z.drop m = (Z.drop n).drop (m - n) from by rw [List.drop_drop]; congr 1; omega, List.take_append_drop]) hrl
            exact this
          · exact CellsAt.only (hX1.drop' n) (hO2'.drewN q) h)
        (by
          by_cases h : gx = g
          · exact .inl ⟨by rw [h], by rw [hXe h, List.drop_take]⟩
          · exact .inr h)
        (fun d hd => HXB.out d (List.mem_of_mem_drop hd)) (by omega) (by simp only [B64]; omega) (by omega) (by omega) (by omega) (by omega)
        (by
          obtain ⟨q, rfl⟩ := hW
          by_cases h : gx = g
          · subst h; exact ⟨_, _, hb2⟩
          · exact ⟨xca, xta, (hO2'.block _ h).trans ((hw1.block _ hgx).trans hxp)⟩))
      have hsl4 := fun W => slice_mid' 80 (by kernel_rfl) W g 0 (m + 1) Z.length n m (n : Int) (m : Int) rfl rfl hnm' (by omega)
      have hsl5 := fun W => slice_from' 80 (by kernel_rfl) W gx 0 m cx n (n : Int) rfl hnm' hmc
      simp only [Nat.zero_add] at hsl4 hsl5
      go_wp2
      go_region_held3 (fun w' => True) (first | exact True.intro) (((first | go_at_call 80); refine (HADW.out _ (by first | exact ⟨_, rfl⟩ | exact ⟨1, rfl⟩)).mono ?_; rintro e w3 ⟨v2, rs2, rfl, hb3, hI2, hO3⟩))
      have hO3' : Only g w1 w3 := hO2'.trans ⟨(show Below g w2 w2.drew from (Below.refl _ _).drew).trans hO3.below, hO3.size, hO3.block⟩
      have he2 := hI2.eq
      rw [hdl] at he2
      obtain ⟨hz2, ⟨z, hz1⟩, hN⟩ := HFIN.out w3 rs2 v2 hI2.v1 (by rw [hI2.len, hdl]) hI2.bd he2 (by rw [List.append_assoc]; exact hb3) hO3'
      have HN := Lib.hid hN
      clear hN he2
      go_wp2_with fail
      refine HN.out.mono ?_
      rintro e w' ⟨u, rfl, hu, hw⟩
      have HU := Lib.hid hu
      clear hu
      go_wp2
      go_ret
      exact ⟨_, rfl, HU.out, hw⟩
set_option maxHeartbeats 1000000 in
theorem nadd_calls (zv x y : Value) (mz m1 m2 : Nat) (w : World) (B B1 B2 : Nat) (hz : OwnN w B mz zv) (hB : B ≤ w.heap.size) (hx : OwnN w B1 m1 x) (hy : OwnN w B2 m2 y) (L : Nat) (hm1L : m1 < B64 ^ L) (hm2L : m2 < B64 ^ L) (hL : L ≤ 4294967296) :
    Calls Tryz.prog 152 #[zv, x, y] w fun e w' => ∃ v, e = .returned v ∧ OwnN w' B (m1 + m2) v ∧ Below B w w' := by
  obtain ⟨X, m, cx, rfl, hcx⟩ := hx.shape
  obtain ⟨Y, n, cy, rfl, hcy⟩ := hy.shape
  rcases Nat.lt_or_ge m n with h | h
  · have hC := Lib.hid (nadd_ge zv _ _ mz m2 m1 w B B2 B1 hz hB hy hx L hm2L hL (by
      intro A n' c A' n'' c' h1 h2
      injection h1 with _ h1 _; injection h2 with _ h2 _
      omega))
    have hbm : m ≤ 1099511627776 := by
      obtain ⟨_, _, _, _, h1, _, h3, h4, _⟩ := hx.addr
      injection h1 with _ h1 _; omega
    have hbn : n ≤ 1099511627776 := by
      obtain ⟨_, _, _, _, h1, _, h3, h4, _⟩ := hy.addr
      injection h1 with _ h1 _; omega
    clear hm1L hm2L
    have hlt : (m : Int) < (n : Int) := by omega
    go_enter Tryz.func152, Tryz.ntmps152
    go_wp2_with fail
    refine hC.out.mono ?_
    rintro e w' ⟨v, rfl, hv, hw⟩
    have HV := Lib.hid hv
    clear hv
    go_wp2
    go_ret
    refine ⟨_, rfl, ?_, hw⟩
    rw [Nat.add_comm]; exact HV.out
  · exact nadd_ge zv _ _ mz m1 m2 w B B1 B2 hz hB hx hy L hm1L hL (by
      intro A n' c A' n'' c' h1 h2
      injection h1 with _ h1 _; injection h2 with _ h2 _
      omega)
end Go.Proofs.YtikdhkmcdmnadaaGreatFmt
