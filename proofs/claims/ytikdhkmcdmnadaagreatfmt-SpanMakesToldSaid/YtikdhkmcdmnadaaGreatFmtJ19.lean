/- Walks and plain laws of this seat's functions, part 19: N12 N13 N14. -/
import Derived.Test.YtikdhkmcdmnadaaGreatFmtJ02
import Derived.Test.YtikdhkmcdmnadaaGreatFmtJ18
set_option linter.unusedVariables false
set_option linter.unusedSimpArgs false
namespace Go.Proofs.YtikdhkmcdmnadaaGreatFmt
open Go.RowKit

/-- two differences one behind the other -/
theorem sub_two {B : Nat} {xs ys rs rs2 : List Nat} {n c v : Nat} (hn : n ≤ xs.length) (hy : ys.length = n) (hr : rs.length = n) (h1 : val B rs + val B ys = val B (xs.take n) + B ^ n * c) (h2 : val B rs2 + c = val B (xs.drop n) + B ^ (xs.length - n) * v) :
    val B (rs ++ rs2) + val B ys = val B xs + B ^ xs.length * v := by
  have e := val_split B xs n hn
  have e3 : B ^ xs.length = B ^ n * B ^ (xs.length - n) := by rw [← Nat.pow_add]; congr 1; omega
  have e4 := congrArg (B ^ n * ·) h2
  simp only [Nat.mul_add] at e4
  rw [val_append, hr, e3, Nat.mul_assoc, e]
  omega

set_option maxHeartbeats 4000000 in
set_option maxRecDepth 100000 in
theorem nsub_calls (zv x y : Value) (mz m1 m2 : Nat) (w : World) (B B1 B2 : Nat) (hz : OwnN w B mz zv) (hB : B ≤ w.heap.size) (hx : OwnN w B1 m1 x) (hy : OwnN w B2 m2 y) (L : Nat) (hmL : m1 < B64 ^ L) (hL : L ≤ 4294967296)
    (hle : m2 ≤ m1) :
    Calls Tryz.prog 153 #[zv, x, y] w fun e w' => ∃ v, e = .returned v ∧ OwnN w' B (m1 - m2) v ∧ Below B w w' := by
  have hset := Lib.hid (fun W (hW : ∃ q, W = w.drewN q) => nset_calls zv x mz m1 W B B1 (by obtain ⟨q, rfl⟩ := hW; exact hz) (by obtain ⟨q, rfl⟩ := hW; exact hB) (by obtain ⟨q, rfl⟩ := hW; exact hx) L hmL hL)
  obtain ⟨X, m, cx, xs, rfl, hxl, hmc, hcx, hxb, hxt, hxm, hX⟩ := hx.addr
  obtain ⟨Y, n, cy, ys, rfl, hyl, hnc, hcy, hyb, hyt, hym, hY⟩ := hy.addr
  have hnm : n ≤ m := by
    rcases Nat.lt_or_ge m n with h | h
    · have := val_lt_of_len (B := B64) (by decide) hxb hyt (by omega)
      omega
    · exact h
  have HLE := Lib.hid hle
  have hml : m ≤ 4294967296 := by rw [← hxl]; exact Nat.le_trans (len_le_of_val (B := B64) (by decide) hxt (by rw [hxm]; exact hmL)) hL
  clear hmL hL hle
  have HXM := Lib.hid hxm
  have HYM := Lib.hid hym
  have HXB := Lib.hid hxb
  have HYB := Lib.hid hyb
  clear hxm hym hxt hyt hxb hyb
  have hnmz : ¬ ((m : Int) < (n : Int)) := by omega
  rcases Nat.eq_zero_or_pos n with h0 | h0
  · subst h0
    obtain rfl := List.eq_nil_of_length_eq_zero hyl
    rcases Nat.eq_zero_or_pos m with h1 | h1
    · subst h1
      obtain rfl := List.eq_nil_of_length_eq_zero hxl
      have HE := Lib.hid hz
      obtain ⟨zA, zn, zc, rfl, hzc⟩ := hz.shape
      have HE := Lib.hid hz.empty
      have hsl := fun W => slice_to 80 (by kernel_rfl) W zA zn zc 0 0 rfl (by omega)
      clear hset
      go_enter Tryz.func153, Tryz.ntmps153
      go_wp2
      go_ret
      refine ⟨_, rfl, ?_, Below.refl _ _⟩
      rw [← HXM.out, ← HYM.out]; exact HE.out
    · have hm0 : ((m : Int) == 0) = false := by simp; omega
      have HSE := Lib.hid (hset.out w ⟨0, rfl⟩)
      obtain ⟨zA, zn, zc, rfl, hzc⟩ := hz.shape
      clear hset
      go_enter Tryz.func153, Tryz.ntmps153
      go_wp2_with fail
      refine HSE.out.mono ?_
      rintro e w' ⟨v, rfl, hv, hw⟩
      have HV := Lib.hid hv
      clear hv
      go_wp2
      go_ret
      refine ⟨_, rfl, ?_, hw⟩
      rw [← HYM.out]; exact HV.out
  · obtain ⟨gx, rfl, hXc, hgx, ⟨xca, xta, hxp⟩⟩ := hX (by omega)
    obtain ⟨gy, rfl, hYc, hgy, _⟩ := hY h0
    clear hset
    have hm0 : ((m : Int) == 0) = false := by simp; omega
    have hn0 : ((n : Int) == 0) = false := by simp; omega
    have HMK := nmake_dest zv mz m w B hz hB (by omega) (by omega)
    replace HMK := Lib.hid HMK
    obtain ⟨zA, zn, zc, rfl, hzc⟩ := hz.shape
    go_enter Tryz.func153, Tryz.ntmps153
    go_wp2_with fail
    refine HMK.out.mono ?_
    rintro e w1 ⟨g, Z, rfl, hBg, hZ, hZb, hnZ, hZl, hw1, hq⟩
    have hX1 := hXc.below hw1 hgx
    have hY1 := hYc.below hw1 hgy
    have hXe : gx = g → xs = Z.take m := fun h => by
      subst h; rw [hX1.eq hZ (by omega), hxl]
    have hYe : gy = g → ys = Z.take n := fun h => by
      subst h; rw [hY1.eq hZ (by omega), hyl]
    have hxtl : (xs.take n).length = n := by simp; omega
    have HADD := Lib.hid (fun (W : World) (hW : ∃ q, W = w1.drewN q) => subVV_calls (some ⟨gx, 0, none⟩) (some ⟨gy, 0, none⟩) n Z.length cx cy g 0 (xs.take n) ys [] (Z.take n) (Z.drop n) W hxtl hyl
      (by obtain ⟨q, rfl⟩ := hW; rw [List.nil_append, List.take_append_drop]; exact hZ) (by simp; omega) rfl (by rw [List.nil_append, List.take_append_drop]; exact hZb)
      (by
        obtain ⟨q, rfl⟩ := hW
        refine Src.cells (show CellsAt (w1.drewN q) _ _ from hX1.take n) rfl ?_
        rw [hxtl]
        by_cases h : gx = g
        · exact .inl ⟨by rw [h]; rfl, by rw [hXe h, List.take_take, List.take_take, Nat.min_eq_left hnm, Nat.min_self]⟩
        · exact .inr h)
      (by
        obtain ⟨q, rfl⟩ := hW
        refine Src.cells (show CellsAt (w1.drewN q) _ _ from hY1) rfl ?_
        rw [hyl]
        by_cases h : gy = g
        · exact .inl ⟨by rw [h]; rfl, by rw [List.take_take, Nat.min_self]; exact hYe h⟩
        · exact .inr h)
      (fun d hd => HXB.out d (List.mem_of_mem_take hd)) HYB.out (by omega) (by omega))
    have hsl1 := fun W => slice_to 80 (by kernel_rfl) W (some ⟨g, 0, none⟩) m Z.length n (n : Int) rfl (by omega)
    have hsl2 := fun W => slice_to 80 (by kernel_rfl) W (some ⟨gx, 0, none⟩) m cx n (n : Int) rfl (by omega)
    have hsl3 := fun W => slice_to 80 (by kernel_rfl) W (some ⟨gy, 0, none⟩) n cy n (n : Int) rfl (by omega)
    go_wp2
    go_region_held3 (fun w' => True) (first | exact True.intro) (((first | go_at_call 183 | go_at_call 58); refine (HADD.out _ (by first | exact ⟨_, rfl⟩ | exact ⟨1, rfl⟩)).mono ?_; rintro e w2 ⟨v, rs, rfl, hb2, hI, hO2⟩))
    rw [List.nil_append] at hb2
    have hrl := hI.len
    have hIe := hI.eq
    rw [List.take_take, Nat.min_self, List.take_of_length_le (l := ys) (by omega)] at hIe
    have hv1 : v ≤ 1 := by rcases hI.c1 with h | h <;> rw [h] <;> decide
    have hrb := hI.bd
    have hO2' : Only g w1 w2 := ⟨(show Below g w1 w1.drew from (Below.refl _ _).drew).trans hO2.below, hO2.size, hO2.block⟩
    clear hO2
    have hfin : ∀ (w3 : World) (rs2 : List Nat) (v2 : Nat), rs2.length = m - n → (∀ d ∈ rs2, d < B64) → val B64 rs2 + v = val B64 (xs.drop n) + B64 ^ (m - n) * v2 → Blk w3 g 109 (i64s ((rs ++ rs2) ++ Z.drop m)) → Only g w1 w3 →
        v2 = 0 ∧ Calls Tryz.prog 99 #[.slice (some ⟨g, 0, none⟩) m Z.length] w3 fun e w' => ∃ v, e = .returned v ∧ OwnN w' B (m1 - m2) v ∧ Below B w w' := by
      intro w3 rs2 v2 hr2 hr2b hr2e hb3 hO3
      have hzl : ((rs ++ rs2) ++ Z.drop m).length = Z.length := by simp; omega
      have hzb1 : ∀ d ∈ rs ++ rs2, d < B64 := fun d hd => by
        rcases List.mem_append.1 hd with hd | hd
        · exact hrb d hd
        · exact hr2b d hd
      have hzb : ∀ d ∈ (rs ++ rs2) ++ Z.drop m, d < B64 := fun d hd => by
        rcases List.mem_append.1 hd with hd | hd
        · exact hzb1 d hd
        · exact hZb d (List.mem_of_mem_drop hd)
      have hrrl : (rs ++ rs2).length = m := by simp; omega
      have e1 : ((rs ++ rs2) ++ Z.drop m).take m = rs ++ rs2 := List.take_left' hrrl
      have h7 := sub_two (B := B64) (by omega) hyl hrl hIe (by rw [hxl]; exact hr2e)
      rw [hxl, HXM.out, HYM.out] at h7
      have h8 := val_lt (B := B64) (by decide) (rs ++ rs2) hzb1
      rw [hrrl] at h8
      have h9 := HLE.out
      obtain rfl : v2 = 0 := by
        rcases Nat.eq_zero_or_pos v2 with h | h
        · exact h
        · have := Nat.mul_le_mul_left (B64 ^ m) h
          rw [Nat.mul_succ, Nat.mul_zero] at this
          omega
      refine ⟨rfl, ?_⟩
      have hr := u64row (base := 0) hb3 hzb m
      refine (norm_calls _ m Z.length _ _ _ _ (by simp; omega) hr (by omega) hnZ).mono ?_
      rintro e' w' ⟨rfl, rfl⟩
      have h6 := OwnN.norm (B := B) (n := m) (m := m1 - m2) hb3 hBg hzb (by omega) (by omega) (by
        rw [e1]; rw [Nat.mul_zero, Nat.add_zero] at h7; omega)
      rw [hzl] at h6
      exact ⟨_, rfl, h6, (hw1.mono hB).trans (hO3.below.mono hBg)⟩
    have HFIN := Lib.hid hfin
    clear hfin
    by_cases hmn : m = n
    · subst hmn
      obtain ⟨rfl, hN⟩ := HFIN.out w2 [] v (by simp) (by simp) (by rw [Nat.sub_self, List.drop_of_length_le (by omega)]; simp [val]) (by rw [List.append_nil]; exact hb2) hO2'
      have HN := Lib.hid hN
      clear hN
      go_wp2_with fail
      refine HN.out.mono ?_
      rintro e w' ⟨u, rfl, hu, hw⟩
      have HU := Lib.hid hu
      clear hu
      go_wp2
      go_ret
      exact ⟨_, rfl, HU.out, hw⟩
    · have hnm' : n < m := by omega
      have hgt : (n : Int) < (m : Int) := by omega
      have hdl : (xs.drop n).length = m - n := by simp; omega
      have hO2'' := hO2'
      have HADW := Lib.hid (fun (W : World) (hW : ∃ q, W = w2.drewN q) => subVW_calls ⟨gx, n, none⟩ (m - n) v (Z.length - n) (cx - n) g n (xs.drop n) rs ((Z.drop n).take (m - n)) (Z.drop m) W hdl
        (by
          obtain ⟨q, rfl⟩ := hW
          have e : Z.drop n = (Z.drop n).take (m - n) ++ Z.drop m := by
            rw [show Z.drop m = (Z.drop n).drop (m - n) from by rw [List.drop_drop]; congr 1; omega, List.take_append_drop]
          rw [← e]; exact hb2) (by simp; omega) hrl
        (by
          intro d hd
          rcases List.mem_append.1 hd with hd | hd
          · exact hrb d hd
          · rcases List.mem_append.1 hd with hd | hd
            · exact hZb d (List.mem_of_mem_drop (List.mem_of_mem_take hd))
            · exact hZb d (List.mem_of_mem_drop hd))
        (by
          obtain ⟨q, rfl⟩ := hW
          by_cases h : gx = g
          · subst h
            have := CellsAt.blk (w := w2) (o := n) (xs := xs.drop n) (pre := rs) (post := Z.drop m) hb2 (by
              rw [hXe rfl, List.drop_take]
              congr 1
              rw [show Z.drop m = (Z.drop n).drop (m - n) from by rw [List.drop_drop]; congr 1; omega, List.take_append_drop]) hrl
            exact this
          · exact CellsAt.only (hX1.drop' n) (hO2'.drewN q) h)
        (by
          by_cases h : gx = g
          · exact .inl ⟨by rw [h], by rw [hXe h, List.drop_take]⟩
          · exact .inr h)
        (fun d hd => HXB.out d (List.mem_of_mem_drop hd)) (by omega) (by simp only [B64]; omega) (by omega) (by omega) (by omega) (by omega)
        (by
          obtain ⟨q, rfl⟩ := hW
          by_cases h : gx = g
          · subst h; exact ⟨_, _, hb2⟩
          · exact ⟨xca, xta, (hO2'.block _ h).trans ((hw1.block _ hgx).trans hxp)⟩))
      have hsl4 := fun W => slice_from' 80 (by kernel_rfl) W g 0 m Z.length n (n : Int) rfl hnm' (by omega)
      have hsl5 := fun W => slice_from' 80 (by kernel_rfl) W gx 0 m cx n (n : Int) rfl hnm' hmc
      simp only [Nat.zero_add] at hsl4 hsl5
      go_wp2
      go_region_held3 (fun w' => True) (first | exact True.intro) (((first | go_at_call 184); refine (HADW.out _ (by first | exact ⟨_, rfl⟩ | exact ⟨1, rfl⟩)).mono ?_; rintro e w3 ⟨v2, rs2, rfl, hb3, hI2, hO3⟩))
      have hO3' : Only g w1 w3 := hO2'.trans ⟨(show Below g w2 w2.drew from (Below.refl _ _).drew).trans hO3.below, hO3.size, hO3.block⟩
      have he2 := hI2.eq
      rw [hdl] at he2
      obtain ⟨rfl, hN⟩ := HFIN.out w3 rs2 v2 (by rw [hI2.len, hdl]) hI2.bd he2 (by rw [List.append_assoc]; exact hb3) hO3'
      have HN := Lib.hid hN
      clear hN he2
      go_wp2_with fail
      refine HN.out.mono ?_
      rintro e w' ⟨u, rfl, hu, hw⟩
      have HU := Lib.hid hu
      clear hu
      go_wp2
      go_ret
      exact ⟨_, rfl, HU.out, hw⟩
end Go.Proofs.YtikdhkmcdmnadaaGreatFmt

namespace Go.Proofs.YtikdhkmcdmnadaaGreatFmt
open Go.RowKit

theorem val_zeros (B n : Nat) (xs : List Nat) : val B (List.replicate n 0 ++ xs) = B ^ n * val B xs := by
  rw [val_append, val_replicate, List.length_replicate, Nat.zero_add]
theorem lsh_all {xs ys : List Nat} {q r s v m : Nat} (hq : q = s / 64) (hr : r = s % 64) (hm : val B64 xs = m) (hy : val B64 ys + B64 ^ xs.length * v = val B64 xs * 2 ^ r) (hl : ys.length = xs.length) :
    val B64 (List.replicate q 0 ++ (ys ++ [v])) = m * 2 ^ s := by
  rw [val_zeros, val_append, hl]
  simp only [val, Nat.mul_zero, Nat.add_zero]
  rw [hy, hm, Nat.mul_left_comm, hq, hr, pow_64]

set_option maxHeartbeats 4000000 in
set_option maxRecDepth 100000 in
theorem nlsh_pos (x : Value) (m s : Nat) (w : World) (B : Nat) (hx : OwnN w B m x) (hs0 : 0 < s) (hs : s ≤ 68719476736) (L : Nat) (hmL : m < B64 ^ L) (hL : L ≤ 4294967296) :
    Calls Tryz.prog 167 #[.slice none 0 0, x, .int .u64 s] w fun e w' => ∃ v, e = .returned v ∧ OwnN w' w.heap.size (m * 2 ^ s) v ∧ Below w.heap.size w w' := by
  obtain ⟨A, l, c, xs, rfl, hl, hlc, hcb, hA, ht, hm, hne, hlt⟩ := hx.row
  have hxl : xs.length ≤ 4294967296 := Nat.le_trans (len_le_of_val (B := B64) (by decide) ht (by rw [hm]; exact hmL)) hL
  clear hmL hL
  have hsz : ((s : Int) == 0) = false := by simp; omega
  obtain ⟨q, hq⟩ : ∃ q, q = s / 64 := ⟨_, rfl⟩
  have hq1 : (s : Int) / 64 = (q : Int) := by omega
  obtain ⟨r, hr⟩ : ∃ r, r = s % 64 := ⟨_, rfl⟩
  have hr1 : (s : Int) % 64 = (r : Int) := by omega
  have hrb : r < 64 := by omega
  have hqb : q ≤ 1073741824 := by omega
  have HQ := Lib.hid hq
  have HR := Lib.hid hr
  have HM := Lib.hid hm
  have hxb := u64bd hA
  have HXB := Lib.hid hxb
  clear hq hr hm ht hxb
  subst hl
  rcases Nat.eq_zero_or_pos xs.length with h0 | h0
  · obtain rfl := List.eq_nil_of_length_eq_zero h0
    go_enter Tryz.func167, Tryz.ntmps167
    go_wp2
    go_ret
    refine ⟨_, rfl, .inl ⟨rfl, ?_⟩, Below.refl _ _⟩
    rw [← HM.out]; simp [val]
  · obtain ⟨a, rfl⟩ := hne h0
    have hab := hlt a rfl
    have hlz : ((xs.length : Int) == 0) = false := by simp; intro e; rw [e] at h0; simp at h0
    obtain ⟨l, hl⟩ : ∃ l, xs.length = l := ⟨_, rfl⟩
    rw [hl] at hxl h0 hlz hx hlc
    obtain ⟨n, hn⟩ : ∃ n, n = l + q := ⟨_, rfl⟩
    have hn1 : (l : Int) + (q : Int) = (n : Int) := by omega
    have hn2 : (n : Int) - (l : Int) = (q : Int) := by omega
    have hn3 : n - q = l := by omega
    have hnb : n ≤ 5368709120 := by omega
    have HMK := nmake_new (n + 1) w (by omega) (by omega) none 0 0 (by omega)
    rw [show ((n + 1 : Nat) : Int) = (n : Int) + 1 from by omega] at HMK
    replace HMK := Lib.hid HMK
    have hwn : IntKind.i64.wrap ((n : Int) + 1) = (n : Int) + 1 := IntWalk.i64_in _ (by omega)
    rw [hl]
    have hql : q < n := by omega
    have HN := Lib.hid hn
    have HL := Lib.hid hl
    have hls : l ≤ n := by omega
    clear hn hl hne hlt
    go_enter Tryz.func167, Tryz.ntmps167
    go_wp2_with fail
    refine HMK.out.mono ?_
    rintro e w1 ⟨k, hk1, hk2, rfl, rfl⟩
    have hB0 := Blk.new w (madeCells #[.int .u64 0] k) 109
    rw [made64] at hB0
    have HB0 := Lib.hid hB0
    clear hB0
    obtain ⟨j, hj⟩ : ∃ j, k = q + (l + (1 + j)) := ⟨k - (n + 1), by have := HN.out; omega⟩
    have hZ : List.replicate k 0 = List.replicate q 0 ++ (List.replicate l 0 ++ (0 :: List.replicate j 0)) := by
      rw [hj, ← List.replicate_append_replicate, ← List.replicate_append_replicate, ← List.replicate_append_replicate]; rfl
    have HJ := Lib.hid hj
    have HZ := Lib.hid hZ
    clear hj hZ
    have hA1 := hA.below (below_new (Below.refl _ _) (.cells (madeCells #[.int .u64 0] k) 109))
    have hfin : ∀ (w2 : World) (ys : List Nat) (v : Nat), ys.length = l → (∀ d ∈ ys, d < B64) → v < B64 → Blk w2 w.heap.size 109 (i64s (List.replicate q 0 ++ (ys ++ (0 :: List.replicate j 0)))) → val B64 ys + B64 ^ l * v = val B64 xs * 2 ^ r → Below w.heap.size w w2 →
        w2.frozen? ⟨w.heap.size, n, none⟩ = false ∧ w2.cell? ⟨w.heap.size, n, none⟩ = some (.int .u64 (0 : Nat)) ∧
        ∃ R, (∀ ty, (Builtin.clear_ #[80] ty #[.slice (some ⟨w.heap.size, 0, none⟩) q k]).run Tryz.prog (w2.setCell ⟨w.heap.size, n, none⟩ (.int .u64 v)) = .ok (.tuple #[]) ((w2.setCell ⟨w.heap.size, n, none⟩ (.int .u64 v)).setRow w.heap.size R)) ∧
        Calls Tryz.prog 99 #[.slice (some ⟨w.heap.size, 0, none⟩) (n + 1) k] ((w2.setCell ⟨w.heap.size, n, none⟩ (.int .u64 v)).setRow w.heap.size R) fun e w' => ∃ u, e = .returned u ∧ OwnN w' w.heap.size (m * 2 ^ s) u ∧ Below w.heap.size w w' := by
      intro w2 ys v hyl hyb hv hb hval hw2
      have hN := HN.out
      have hJ := HJ.out
      have hb' := hb
      rw [← List.append_assoc] at hb'
      have hll : (List.replicate q 0 ++ ys).length = n := by simp; omega
      have hzb : ∀ d ∈ (List.replicate q 0 ++ ys) ++ (0 :: List.replicate j 0), d < B64 := fun d hd => by
        rcases List.mem_append.1 hd with hd | hd
        · rcases List.mem_append.1 hd with hd | hd
          · exact zeros_bd _ d hd
          · exact hyb d hd
        · rcases List.mem_cons.1 hd with rfl | hd
          · decide
          · exact zeros_bd _ d hd
      refine ⟨hb.frozen n, ?_, ?_⟩
      · rw [hb'.cell]
        simp [i64s, ← hll]
      · have hb3 := hb'.set64 n v _ rfl
        rw [List.set_append, if_neg (by omega), hll, Nat.sub_self, List.set_cons_zero] at hb3
        have hb3l : ((List.replicate q 0 ++ ys) ++ (v :: List.replicate j 0)).length = k := by simp; omega
        have hcl := fun ty => clear64 hb3 q k ty (by omega)
        have e1 : List.replicate q 0 ++ ((List.replicate q 0 ++ ys) ++ (v :: List.replicate j 0)).drop q = (List.replicate q 0 ++ ys) ++ (v :: List.replicate j 0) := by
          rw [List.append_assoc, List.drop_left' (by simp)]
        rw [e1] at hcl
        refine ⟨_, hcl, ?_⟩
        have hb4 := hb3.setRow (i64s ((List.replicate q 0 ++ ys) ++ (v :: List.replicate j 0)))
        have hzb4 : ∀ d ∈ (List.replicate q 0 ++ ys) ++ (v :: List.replicate j 0), d < B64 := fun d hd => by
          rcases List.mem_append.1 hd with hd | hd
          · exact hzb d (List.mem_append_left _ hd)
          · rcases List.mem_cons.1 hd with rfl | hd
            · exact hv
            · exact zeros_bd _ d hd
        have e2 : ((List.replicate q 0 ++ ys) ++ (v :: List.replicate j 0)).take (n + 1) = List.replicate q 0 ++ (ys ++ [v]) := by
          rw [show (List.replicate q 0 ++ ys) ++ (v :: List.replicate j 0) = (List.replicate q 0 ++ (ys ++ [v])) ++ List.replicate j 0 from by simp, List.take_left' (by simp; omega)]
        have hr := u64row (base := 0) hb4 hzb4 (n + 1)
        refine (norm_calls _ (n + 1) k _ _ _ _ (by simp; omega) hr (by omega) hk1).mono ?_
        rintro e' w' ⟨rfl, rfl⟩
        have h6 := OwnN.norm (B := w.heap.size) (n := n + 1) (m := m * 2 ^ s) hb4 (Nat.le_refl _) hzb4 (by omega) (by omega) (by
          rw [e2]; exact lsh_all HQ.out HR.out HM.out (by rw [HL.out]; exact hval) (by rw [hyl, HL.out]))
        rw [hb3l] at h6
        exact ⟨_, rfl, h6, below_setRow (hw2.setCell (Nat.le_refl _) _) (Nat.le_refl _) _⟩
    have HFIN := Lib.hid hfin
    clear hfin
    have hsl1 := fun W => slice_mid' 80 (by kernel_rfl) W w.heap.size 0 (n + 1) k q n (q : Int) (n : Int) rfl rfl hql (by omega)
    simp only [Nat.zero_add, hn3] at hsl1
    have hsl2 := fun W => slice_mid 80 (by kernel_rfl) W (some ⟨w.heap.size, 0, none⟩) (n + 1) k 0 q (0 : Int) (q : Int) rfl rfl (by omega) (by omega)
    rw [adv_zero _ _ _ (by omega)] at hsl2
    simp only [Nat.sub_zero] at hsl2
    by_cases hr0 : r = 0
    · subst hr0
      have hb0 := HB0.out
      have hcp := fun ty => copy64 hb0 q l (k - q) c 80 80 ty (.inl rfl) (some a) xs HL.out (fun j hj => ⟨_, rfl, (CellsAt.row hA1) j (by rw [HL.out]; exact hj)⟩) (by have := HJ.out; simp; omega) (some ⟨w.heap.size, q, none⟩) (.inl rfl)
      have e1 : (List.replicate k 0).take q ++ (xs ++ (List.replicate k 0).drop (q + l)) = List.replicate q 0 ++ (xs ++ (0 :: List.replicate j 0)) := by
        rw [HZ.out, List.take_left' (by simp), show List.replicate q 0 ++ (List.replicate l 0 ++ (0 :: List.replicate j 0)) = (List.replicate q 0 ++ List.replicate l 0) ++ (0 :: List.replicate j 0) from (List.append_assoc ..).symm, List.drop_left' (by simp)]
      rw [e1] at hcp
      have hb2 := hb0.setRow (i64s (List.replicate q 0 ++ (xs ++ (0 :: List.replicate j 0))))
      obtain ⟨R2, hR2⟩ : ∃ R2, R2 = (i64s (List.replicate q 0 ++ (xs ++ (0 :: List.replicate j 0)))).toArray := ⟨_, rfl⟩
      simp only [← hR2] at hcp hb2
      obtain ⟨hz2, hz1, R, hcl, hN⟩ := HFIN.out _ xs 0 HL.out HXB.out (by decide) hb2 (by simp) (below_setRow (below_new (Below.refl _ _) _) (Nat.le_refl _) _)
      have HN := Lib.hid hN
      have HR2 := Lib.hid hR2
      have h00 : ((0 : Nat) : Int) = 0 := rfl
      rw [h00] at hcl hN
      clear hN hR2 hb2 hb0
      go_wp2_with fail
      refine HN.out.mono ?_
      rintro e w' ⟨u, rfl, hO, hw⟩
      have HO := Lib.hid hO
      clear hO
      go_wp2
      go_ret
      exact ⟨_, rfl, HO.out, hw⟩
    · have hrz : ((r : Int) == 0) = false := by simp; omega
      have HLS := Lib.hid (lshVU_calls (some a) l (k - q) c w.heap.size q r _ _ xs (List.replicate q 0) (List.replicate l 0) (0 :: List.replicate j 0) (w.alloc (.cells (madeCells #[.int .u64 0] k) 109)) HL.out hA1 (by rw [← HZ.out]; exact HB0.out) (by simp) (by simp) (by rw [← HZ.out]; exact zeros_bd _) (by omega) hrb h0 (by omega) (by omega) (fun a' ha' => by cases ha'; exact hab))
      go_wp2_with fail
      refine HLS.out.mono ?_
      rintro e w2 ⟨v, ys, rfl, hb2, hyl, hyb, hyv, hvb, hw2⟩
      obtain ⟨hz2, hz1, R, hcl, hN⟩ := HFIN.out w2 ys v hyl hyb hvb hb2 hyv ((below_new (Below.refl _ _) _).trans hw2)
      have HN := Lib.hid hN
      clear hN hyb hyv
      go_wp2_with fail
      refine HN.out.mono ?_
      rintro e w' ⟨u, rfl, hO, hw⟩
      have HO := Lib.hid hO
      clear hO
      go_wp2
      go_ret
      exact ⟨_, rfl, HO.out, hw⟩

set_option maxHeartbeats 1000000 in
theorem same_nil (A : Option Addr) (l c : Nat) (w : World) : Calls Tryz.prog 198 #[.slice none 0 0, .slice A l c] w fun e w' => e = .returned (.bool false) ∧ ∃ q, w' = w.drewN q := by
  rcases Nat.eq_zero_or_pos l with h | h
  · subst h
    go_enter Tryz.func198, Tryz.ntmps198
    go_wp2
    go_quiet (fail)
    go_wp2
    go_ret
    exact ⟨rfl, _, rfl⟩
  · have h1 : ((0 : Int) == (l : Int)) = false := by simp; omega
    go_enter Tryz.func198, Tryz.ntmps198
    go_wp2
    go_quiet (fail)
    go_wp2
    go_ret
    exact ⟨rfl, _, rfl⟩
set_option maxHeartbeats 1000000 in
theorem alias_nil (A : Option Addr) (l c : Nat) (w : World) : Calls Tryz.prog 100 #[.slice none 0 0, .slice A l c] w fun e w' => e = .returned (.bool false) ∧ ∃ q, w' = w.drewN q := by
  go_enter Tryz.func100, Tryz.ntmps100
  go_wp2
  go_quiet (fail)
  go_wp2
  go_ret
  exact ⟨rfl, _, rfl⟩
set_option maxHeartbeats 1000000 in
theorem nlsh_zero (x : Value) (m : Nat) (w : World) (B : Nat) (hx : OwnN w B m x) (L : Nat) (hmL : m < B64 ^ L) (hL : L ≤ 4294967296) :
    Calls Tryz.prog 167 #[.slice none 0 0, x, .int .u64 0] w fun e w' => ∃ v, e = .returned v ∧ OwnN w' w.heap.size m v ∧ Below w.heap.size w w' := by
  have hS := Lib.hid (fun (W : World) (hW : ∃ q, W = w.drewN q) => nset_calls (.slice none 0 0) x 0 m W w.heap.size B (.inl ⟨rfl, rfl⟩) (by obtain ⟨q, rfl⟩ := hW; exact Nat.le_refl _) (by obtain ⟨q, rfl⟩ := hW; exact hx) L hmL hL)
  obtain ⟨A, l, c, rfl, hc⟩ := hx.shape
  clear hx hmL hL
  have h1 := Lib.hid (fun W => same_nil A l c W)
  have h2 := Lib.hid (fun W => alias_nil A l c W)
  go_enter Tryz.func167, Tryz.ntmps167
  go_wp2_with fail
  refine (h1.out _).mono ?_
  rintro e w' ⟨rfl, q, rfl⟩
  go_wp2_with fail
  refine (h2.out _).mono ?_
  rintro e w' ⟨rfl, q2, rfl⟩
  go_wp2_with fail
  refine (hS.out _ ⟨_, rfl⟩).mono ?_
  rintro e w' ⟨v, rfl, hv, hw⟩
  have HV := Lib.hid hv
  clear hv
  have hw2 : Below w.heap.size w w' := Below.trans (below_drewN (Below.refl _ _) (q + q2)) hw
  clear hw
  go_wp2
  go_ret
  exact ⟨_, rfl, HV.out, hw2⟩
theorem nlsh_calls (x : Value) (m s : Nat) (w : World) (B : Nat) (hx : OwnN w B m x) (hs : s ≤ 68719476736) (L : Nat) (hmL : m < B64 ^ L) (hL : L ≤ 4294967296) :
    Calls Tryz.prog 167 #[.slice none 0 0, x, .int .u64 s] w fun e w' => ∃ v, e = .returned v ∧ OwnN w' w.heap.size (m * 2 ^ s) v ∧ Below w.heap.size w w' := by
  rcases Nat.eq_zero_or_pos s with h | h
  · subst h
    rw [Nat.pow_zero, Nat.mul_one]
    exact nlsh_zero x m w B hx L hmL hL
  · exact nlsh_pos x m s w B hx h hs L hmL hL
end Go.Proofs.YtikdhkmcdmnadaaGreatFmt

namespace Go.Proofs.YtikdhkmcdmnadaaGreatFmt
open Go.RowKit

theorem cell_zero {w : World} {a : Addr} {v : Option Value} (h : w.cell? (a.add 0) = v) : w.cell? a = v := by simpa [Addr.add] using h
set_option maxHeartbeats 2000000 in
theorem ncmp_same (A B : Option Addr) (n ca cb t1 t2 base b3 : Nat) (xs ys : List Nat) (w : World) (hn : xs.length = n) (hm : ys.length = n) (hA : u64.Row t1 w base A xs) (hB : u64.Row t2 w b3 B ys) (hx : n ≤ 1099511627776) (h0 : 0 < n) :
    Calls Tryz.prog 127 #[.slice A n ca, .slice B n cb] w fun e w' => e = .returned (.int .i64 (cmpN (val B64 xs) (val B64 ys))) ∧ ∃ q, w' = w.drewN q := by
  have hbx := u64bd hA
  have hby := u64bd hB
  have HX := Lib.hid hbx
  have HY := Lib.hid hby
  clear hbx hby
  have hlz : ((n : Int) == 0) = false := by simp; omega
  have hw1 : (n : Int) - 1 = ((n - 1 : Nat) : Int) := by omega
  go_enter Tryz.func127, Tryz.ntmps127
  go_wp2
  go_loopw [7] (fun i wr => ∃ (k : Nat), i = .int .i64 (k : Int) ∧ k < n ∧ Hid (cmpN (val B64 (xs.take (k + 1))) (val B64 (ys.take (k + 1))) = cmpN (val B64 xs) (val B64 ys)) ∧ Hid (∃ q, wr = w.drewN q)) (fun i _ => (intOf i).toNat)
  case atStart => exact ⟨n - 1, rfl, by omega, by rw [show n - 1 + 1 = n from by omega, List.take_of_length_le (by omega), List.take_of_length_le (by omega)]; rfl, ⟨0, rfl⟩⟩
  case round =>
    obtain ⟨k, rfl, hk, hI, hQ⟩ := hrel
    obtain ⟨q, rfl⟩ := hQ.out
    have hD : Below w.heap.size w (w.drewN q) := below_drewN (Below.refl _ _) q
    obtain ⟨a, x, rfl, hca, hxb, hxe⟩ := u64at hA (i := k) (by omega)
    obtain ⟨b, y, rfl, hcb, hyb, hye⟩ := u64at hB (i := k) (by omega)
    have hlk : (k : Int) < (n : Int) := by omega
    have hl0 : (0 : Int) ≤ (k : Int) := by omega
    have hex : ∀ z : Int, z = cmpN x y → (x = y → k = 0) → z = cmpN (val B64 xs) (val B64 ys) := by
      intro z hz h0
      rw [← hI.out]
      rcases Nat.lt_trichotomy x y with h | h | h
      · rw [hz, cmpN_lt h, cmpN_lt (top_lt (by decide) HX.out (by omega) (by omega) (by rw [hxe.out, hye.out]; exact h))]
      · obtain rfl := h0 h
        rw [cmp_top (by omega) (by omega) (by rw [hxe.out, hye.out]; exact h), hz, h, cmpN_eq, List.take_zero, List.take_zero, cmpN_eq]
      · rw [hz, cmpN_gt h, cmpN_gt (top_lt (by decide) HY.out (by omega) (by omega) (by rw [hxe.out, hye.out]; exact h))]
    have HEX := Lib.hid hex
    clear hex
    rcases Nat.lt_trichotomy x y with h | h | h
    · have hz := Lib.hid (HEX.out (-1) (by rw [cmpN_lt h]) (by omega))
      cases k with
      | zero =>
        have hca0 := cell_zero hca
        have hcb0 := cell_zero hcb
        go_wp2
        go_quiet (fail)
        go_wp2
        go_quiet (fail)
        go_wp2
        go_ret
        exact ⟨ret_int' hz.out, _, by simp only [drewN_drewN]; rfl⟩
      | succ k =>
        have hcas := cell_succ hca (by omega)
        have hcbs := cell_succ hcb (by omega)
        have hl1 : (0 : Int) ≤ (k : Int) + 1 := by omega
        have hl2 : (k : Int) + 1 < (n : Int) := by omega
        have hl3 : ((k : Int) + 1).toNat = k + 1 := by omega
        go_wp2
        go_quiet (fail)
        go_wp2
        go_quiet (fail)
        go_wp2
        go_ret
        exact ⟨ret_int' hz.out, _, by simp only [drewN_drewN]; rfl⟩
    · subst h
      cases k with
      | zero =>
        have hca0 := cell_zero hca
        have hcb0 := cell_zero hcb
        have hz := Lib.hid (HEX.out 0 (by rw [cmpN_eq]) (fun _ => rfl))
        go_wp2
        go_quiet (fail)
        go_wp2
        go_quiet (fail)
        go_wp2
        go_quiet (fail)
        go_wp2
        go_ret
        exact ⟨ret_int' hz.out, _, by simp only [drewN_drewN]; rfl⟩
      | succ k =>
        have hcas := cell_succ hca (by omega)
        have hcbs := cell_succ hcb (by omega)
        have hl1 : (0 : Int) ≤ (k : Int) + 1 := by omega
        have hl2 : (k : Int) + 1 < (n : Int) := by omega
        have hl3 : ((k : Int) + 1).toNat = k + 1 := by omega
        go_wp2
        go_quiet (fail)
        go_wp2
        go_roundw
        case rel => exact ⟨k, by go_num, by omega, (cmp_top (by omega) (by omega) (by rw [hxe.out, hye.out])).symm.trans hI.out, ⟨_, rfl⟩⟩
        case measure => simp [intOf]
    · have hz := Lib.hid (HEX.out 1 (by rw [cmpN_gt h]) (by omega))
      cases k with
      | zero =>
        have hca0 := cell_zero hca
        have hcb0 := cell_zero hcb
        go_wp2
        go_quiet (fail)
        go_wp2
        go_quiet (fail)
        go_wp2
        go_quiet (fail)
        go_wp2
        go_ret
        exact ⟨ret_int' hz.out, _, by simp only [drewN_drewN]; rfl⟩
      | succ k =>
        have hcas := cell_succ hca (by omega)
        have hcbs := cell_succ hcb (by omega)
        have hl1 : (0 : Int) ≤ (k : Int) + 1 := by omega
        have hl2 : (k : Int) + 1 < (n : Int) := by omega
        have hl3 : ((k : Int) + 1).toNat = k + 1 := by omega
        go_wp2
        go_quiet (fail)
        go_wp2
        go_quiet (fail)
        go_wp2
        go_quiet (fail)
        go_wp2
        go_ret
        exact ⟨ret_int' hz.out, _, by simp only [drewN_drewN]; rfl⟩
end Go.Proofs.YtikdhkmcdmnadaaGreatFmt
