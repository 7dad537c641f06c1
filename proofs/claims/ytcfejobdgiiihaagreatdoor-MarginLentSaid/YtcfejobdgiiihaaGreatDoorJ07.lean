/- Walks and plain laws of this seat's functions, part 7: A10 A11. -/
import Derived.Test.YtcfejobdgiiihaaGreatDoorJ04
import Derived.Test.YtcfejobdgiiihaaGreatDoorJ06
set_option linter.unusedVariables false
set_option linter.unusedSimpArgs false
namespace Go.Proofs.YtcfejobdgiiihaaGreatDoor
open Go.RowKit

theorem be_step (y j p P : Nat) (hp : p = 2 ^ j) (hP : P = p * 256) (hb : P ≤ 18446744073709551616) :
    bits .or .u64 ((y % p : Nat) : Int) (((y / p % 256 : Nat) : Int) * (p : Int)) = ((y % P : Nat) : Int) := by
  have hp0 : 0 < p := by rw [hp]; exact Nat.pow_pos (by decide)
  have e1 : ((y / p % 256 : Nat) : Int) * (p : Int) = ((y / p % 256 * p : Nat) : Int) := by rw [Int.natCast_mul]
  have h1 : y % p < p := Nat.mod_lt _ hp0
  have h2 : y / p % 256 < 256 := Nat.mod_lt _ (by decide)
  have h3 : y / p % 256 * p ≤ 255 * p := Nat.mul_le_mul_right _ (by omega)
  rw [e1, u64_or_nat _ _ (by omega) (by omega), or_add_low (r := j) (by rw [← hp]; exact h1) (by rw [hp]; exact Nat.mul_mod_left _ _), hP, Nat.mod_mul, Nat.mul_comm p]
set_option maxHeartbeats 4000000 in
set_option maxRecDepth 100000 in
theorem be64_calls (g o c y : Nat) (w : World) (hy : y < 18446744073709551616)
    (h : ∀ k, k < 8 → w.cell? ⟨g, o + (7 - k), none⟩ = some (.int .u8 (y / 2 ^ (8 * k) % 256 : Nat))) :
    Calls Tryz.prog 148 #[.slice (some ⟨g, o, none⟩) 8 c] w fun e w' => e = .returned (.int .u64 y) ∧ ∃ n, w' = w.drewN n := by
  have h0 := h 0 (by decide)
  have h1 := h 1 (by decide)
  have h2 := h 2 (by decide)
  have h3 := h 3 (by decide)
  have h4 := h 4 (by decide)
  have h5 := h 5 (by decide)
  have h6 := h 6 (by decide)
  have h7 := h 7 (by decide)
  clear h
  have b1 := be_step y 8 256 65536 (by decide) (by decide) (by decide)
  have b2 := be_step y 16 65536 16777216 (by decide) (by decide) (by decide)
  have b3 := be_step y 24 16777216 4294967296 (by decide) (by decide) (by decide)
  have b4 := be_step y 32 4294967296 1099511627776 (by decide) (by decide) (by decide)
  have b5 := be_step y 40 1099511627776 281474976710656 (by decide) (by decide) (by decide)
  have b6 := be_step y 48 281474976710656 72057594037927936 (by decide) (by decide) (by decide)
  have b7 := be_step y 56 72057594037927936 18446744073709551616 (by decide) (by decide) (by decide)
  rw [Nat.mod_eq_of_lt hy] at b7
  simp only [Nat.reduceMul, Nat.reducePow, Nat.reduceSub, Nat.div_one, Nat.add_zero] at h0 h1 h2 h3 h4 h5 h6 h7
  simp only [Int.cast_ofNat_Int] at b1 b2 b3 b4 b5 b6 b7
  obtain ⟨d1, e1⟩ : ∃ d, y / 256 % 256 = d := ⟨_, rfl⟩
  obtain ⟨d2, e2⟩ : ∃ d, y / 65536 % 256 = d := ⟨_, rfl⟩
  obtain ⟨d3, e3⟩ : ∃ d, y / 16777216 % 256 = d := ⟨_, rfl⟩
  obtain ⟨d4, e4⟩ : ∃ d, y / 4294967296 % 256 = d := ⟨_, rfl⟩
  obtain ⟨d5, e5⟩ : ∃ d, y / 1099511627776 % 256 = d := ⟨_, rfl⟩
  obtain ⟨d6, e6⟩ : ∃ d, y / 281474976710656 % 256 = d := ⟨_, rfl⟩
  obtain ⟨d7, e7⟩ : ∃ d, y / 72057594037927936 % 256 = d := ⟨_, rfl⟩
  obtain ⟨c0, f0⟩ : ∃ d, y % 256 = d := ⟨_, rfl⟩
  obtain ⟨c1, f1⟩ : ∃ d, y % 65536 = d := ⟨_, rfl⟩
  obtain ⟨c2, f2⟩ : ∃ d, y % 16777216 = d := ⟨_, rfl⟩
  obtain ⟨c3, f3⟩ : ∃ d, y % 4294967296 = d := ⟨_, rfl⟩
  obtain ⟨c4, f4⟩ : ∃ d, y % 1099511627776 = d := ⟨_, rfl⟩
  obtain ⟨c5, f5⟩ : ∃ d, y % 281474976710656 = d := ⟨_, rfl⟩
  obtain ⟨c6, f6⟩ : ∃ d, y % 72057594037927936 = d := ⟨_, rfl⟩
  rw [e1] at h1 b1; rw [e2] at h2 b2; rw [e3] at h3 b3; rw [e4] at h4 b4; rw [e5] at h5 b5; rw [e6] at h6 b6; rw [e7] at h7 b7
  rw [f0] at h0 b1; rw [f1] at b1 b2; rw [f2] at b2 b3; rw [f3] at b3 b4; rw [f4] at b4 b5; rw [f5] at b5 b6; rw [f6] at b6 b7
  have g0 : (c0 : Int) < 256 := by omega
  have g1 : (d1 : Int) < 256 := by omega
  have g2 : (d2 : Int) < 256 := by omega
  have g3 : (d3 : Int) < 256 := by omega
  have g4 : (d4 : Int) < 256 := by omega
  have g5 : (d5 : Int) < 256 := by omega
  have g6 : (d6 : Int) < 256 := by omega
  have g7 : (d7 : Int) < 256 := by omega
  clear e1 e2 e3 e4 e5 e6 e7 f0 f1 f2 f3 f4 f5 f6 hy
  go_enter Tryz.func148, Tryz.ntmps148
  go_wp2
  go_quiet (fail)
  go_wp2
  go_ret
  exact ⟨rfl, _, rfl⟩
set_option maxHeartbeats 1000000 in
set_option maxRecDepth 100000 in
theorem beword_calls (g o c y : Nat) (w : World) (hy : y < 18446744073709551616)
    (h : ∀ k, k < 8 → w.cell? ⟨g, o + (7 - k), none⟩ = some (.int .u8 (y / 2 ^ (8 * k) % 256 : Nat))) :
    Calls Tryz.prog 143 #[.slice (some ⟨g, o, none⟩) 8 c] w fun e w' => e = .returned (.int .u64 y) ∧ ∃ n, w' = w.drewN n := by
  have HB := Lib.hid (be64_calls g o c y w hy h)
  clear h
  go_enter Tryz.func143, Tryz.ntmps143
  go_wp2_with fail
  refine HB.out.mono ?_
  rintro e w' ⟨rfl, n, rfl⟩
  go_wp2
  go_ret
  exact ⟨rfl, _, rfl⟩
/-- the bytes of 76 words, the highest first -/
def i8s (zs : List Nat) : List Value := zs.map fun d => .int .u8 (d : Nat)
structure BytesOf (ys bs : List Nat) : Prop where
  len : bs.length = 608
  at_ : ∀ i k, i < 76 → k < 8 → bs.getD (607 - 8 * i - k) 0 = ys.getD i 0 / 2 ^ (8 * k) % 256
set_option maxHeartbeats 4000000 in
set_option maxRecDepth 100000 in
theorem nsetBytes_calls (g t : Nat) (n : Nat) (ys bs : List Nat) (w : World) (hg : Blk w g t (i8s bs)) (hm : Mag n ys) (hb : BytesOf ys bs) :
    Calls Tryz.prog 126 #[.slice none 0 0, .slice (some ⟨g, 0, none⟩) 608 608] w fun e w' => ∃ v, e = .returned v ∧ OwnN w' w.heap.size n v ∧ Below w.heap.size w w' := by
  have HM := Lib.hid hm
  have HB := Lib.hid hb
  have HG := Lib.hid hg
  have hgl := hg.lt
  have HMK := Lib.hid (nmake_new 76 w (by decide) (by decide) none 0 0 (by decide))
  clear hm hb hg
  go_enter Tryz.func126, Tryz.ntmps126
  go_wp2_with fail
  refine HMK.out.mono ?_
  rintro e w' ⟨k, hk1, hk2, rfl, rfl⟩
  have hZ : Hid (Blk (w.alloc (.cells (madeCells #[.int .u64 0] k) 163)) w.heap.size 163 (i64s (List.replicate k 0))) := by
    have := Blk.new w (madeCells #[.int .u64 0] k) 163
    rw [made64] at this
    exact this
  go_wp2_with fail
  go_loopw [5, 6] (fun iv kv wr => ∃ (j p : Nat) , j ≤ 76 ∧ p + 8 * j = 608 ∧ iv = .int .i64 p ∧ kv = .int .i64 j ∧ Hid (Blk wr w.heap.size 163 (i64s (ys.take j ++ List.replicate (k - j) 0))) ∧ Hid (Below w.heap.size w wr)) (fun _ kv _ => 76 - (intOf kv).toNat)
  case atStart => exact ⟨0, 608, by omega, rfl, rfl, rfl, (by simp only [List.take_zero, List.nil_append, Nat.sub_zero]; exact hZ.out), below_new (Below.refl _ _) _⟩
  case round =>
    obtain ⟨j, p, hj, hp, rfl, rfl, hB, hW⟩ := hrel
    have hyl := HM.out.len
    by_cases hlt : j < 76
    · have hBg := HG.out.below' hW.out
      have hyb := getD_mem_lt HM.out.bd (i := j) (by omega)
      have hwc := Lib.hid (beword_calls g (p - 8) (608 - (p - 8)) (ys.getD j 0) wr hyb (fun q hq => by
        have e := HB.out.at_ j q hlt hq
        have hbl := HB.out.len
        have : wr.cell? ⟨g, p - 8 + (7 - q), none⟩ = some (.int .u8 (bs.getD (607 - 8 * j - q) 0 : Nat)) := by
          rw [hBg.cell, show p - 8 + (7 - q) = 607 - 8 * j - q from by omega]
          simp [i8s, show 607 - 8 * j - q < bs.length by omega]
        rw [e] at this
        exact this))
      obtain ⟨y, hy⟩ : ∃ y, ys.getD j 0 = y := ⟨_, rfl⟩
      rw [hy] at hwc hyb
      have HSET : Hid (Blk (wr.setCell ⟨w.heap.size, j, none⟩ (.int .u64 (y : Nat))) w.heap.size 163 (i64s (ys.take (j + 1) ++ List.replicate (k - (j + 1)) 0))) := by
        have := hB.out.set64 j y _ rfl
        have e : (ys.take j ++ List.replicate (k - j) 0).set j y = ys.take (j + 1) ++ List.replicate (k - (j + 1)) 0 := by
          have hl : (ys.take j).length = j := by rw [List.length_take]; omega
          rw [take_snoc' (by omega), hy, List.set_append, if_neg (by omega), hl, Nat.sub_self, show k - j = (k - (j + 1)) + 1 from by omega, List.replicate_succ, List.set_cons_zero, List.append_assoc]
          rfl
        rw [e] at this
        exact this
      have hzf := hB.out.frozen j
      have hzc : wr.cell? ⟨w.heap.size, j, none⟩ = some (.int .u64 0) := by
        rw [hB.out.cell]
        have hl : (ys.take j).length = j := by rw [List.length_take]; omega
        have hq : (ys.take j ++ List.replicate (k - j) 0)[j]? = some 0 := by
          rw [List.getElem?_append_right (by omega), hl, Nat.sub_self, List.getElem?_replicate, if_pos (by omega)]
        have hq2 : (i64s (ys.take j ++ List.replicate (k - j) 0))[j]? = some (.int .u64 ((0 : Nat) : Int)) := by
          rw [i64s, List.getElem?_map, hq]; rfl
        exact hq2
      have n1 : (p : Int) - 8 = ((p - 8 : Nat) : Int) := by omega
      have n3 : p - (p - 8) = 8 := by omega
      clear hy hBg hyl
      go_wp2_with fail
      clear n3
      refine hwc.out.mono ?_
      rintro e w' ⟨rfl, q, rfl⟩
      go_wp2
      go_roundw
      case rel => exact ⟨j + 1, p - 8, by omega, by omega, rfl, by go_num, HSET.out, (below_drewN hW.out q).setCell (p := ⟨w.heap.size, j, none⟩) (Nat.le_refl _) _⟩
      case measure => simp [intOf]; omega
    · obtain rfl : j = 76 := by omega
      obtain rfl : p = 0 := by omega
      have hB' := hB.out
      have hyt : ys.take 76 = ys := List.take_of_length_le (by omega)
      rw [hyt] at hB'
      have HB' := Lib.hid hB'
      have hrow : u64.Row 163 wr w.heap.size (some ⟨w.heap.size, 0, none⟩) ys := by
        have := u64row (base := w.heap.size) hB' (by intro d hd; rcases List.mem_append.1 hd with h | h; exact HM.out.bd d h; simp at h; rw [h.2]; decide) 76
        rwa [List.take_left' hyl] at this
      have HNM := Lib.hid (norm_calls (some ⟨w.heap.size, 0, none⟩) 76 k 163 w.heap.size ys wr hyl hrow (by decide) hk1)
      have HYL := Lib.hid hyl
      clear hB' hyt hrow hyl
      go_wp2_with fail
      refine HNM.out.mono ?_
      rintro e w' ⟨rfl, rfl⟩
      go_wp2
      go_ret
      refine ⟨_, rfl, .inr ⟨w.heap.size, ys ++ List.replicate (k - 76) 0, trimLen ys 76, ?_, Nat.le_refl _, HB'.out, ?_, ?_, ?_, ?_, ?_⟩, hW.out⟩
      · rw [List.length_append, HYL.out, List.length_replicate, show 76 + (k - 76) = k from by omega]; rfl
      · intro d hd; rcases List.mem_append.1 hd with h | h
        · exact HM.out.bd d h
        · simp at h; rw [h.2]; decide
      · have := trimLen_le ys 76; rw [List.length_append, HYL.out]; omega
      · rw [List.length_append, HYL.out, List.length_replicate]; omega
      · have h1 := trimLen_le ys 76
        rw [List.take_append_of_le_length (by rw [HYL.out]; exact h1)]
        exact trimLen_trimmed ys 76 (by rw [HYL.out]; exact Nat.le_refl _)
      · have h1 := trimLen_le ys 76
        have h2 := HYL.out
        rw [List.take_append_of_le_length (by rw [HYL.out]; exact h1), trimLen_val _ _ _ (by omega), List.take_of_length_le (by omega)]
        exact HM.out.eq
set_option maxHeartbeats 1000000 in
set_option maxRecDepth 100000 in
theorem iSetBytes_calls (bz g t : Nat) (n : Nat) (ys bs : List Nat) (w : World) (hz : Blk w bz 149 [.bool false, .slice none 0 0]) (hg : Blk w g t (i8s bs)) (hm : Mag n ys) (hb : BytesOf ys bs) :
    Calls Tryz.prog 109 #[.pointer (some ⟨bz, 0, none⟩), .slice (some ⟨g, 0, none⟩) 608 608] w fun e w' => e = .returned (.pointer (some ⟨bz, 0, none⟩)) ∧ ∃ v', Blk w' bz 149 [.bool false, v'] ∧ OwnN w' (bz + 1) n v' ∧ Below bz w w' := by
  have hz0 := hz.cell 0
  have hz1 := hz.cell 1
  have hzf := hz.frozen 0
  have hzf1 := hz.frozen 1
  simp only [List.getElem?_cons_zero, List.getElem?_cons_succ] at hz0 hz1
  have hzl := hz.lt
  have HZ := Lib.hid hz
  have HC := Lib.hid (nsetBytes_calls g t n ys bs w hg hm hb)
  clear hz hg hm hb
  go_enter Tryz.func109, Tryz.ntmps109
  go_wp2_with fail
  refine HC.out.mono ?_
  rintro e w2 ⟨v', rfl, hO, hW⟩
  have c1 : w2.cell? ⟨bz, 1, none⟩ = some (.slice none 0 0) := (hW.cell (p := ⟨bz, 1, none⟩) hzl).trans hz1
  have f1 : w2.frozen? ⟨bz, 1, none⟩ = false := (hW.frozen (p := ⟨bz, 1, none⟩) hzl).trans hzf1
  have c0 : w2.cell? ⟨bz, 0, none⟩ = some (.bool false) := (hW.cell (p := ⟨bz, 0, none⟩) hzl).trans hz0
  have f0 : w2.frozen? ⟨bz, 0, none⟩ = false := (hW.frozen (p := ⟨bz, 0, none⟩) hzl).trans hzf
  obtain ⟨A', n', c', rfl, _⟩ := hO.shape
  have HE := Lib.hid (int_end HZ.out (Below.refl _ _) hW hO)
  clear hO
  go_wp2
  go_ret
  exact ⟨rfl, _, HE.out.1, HE.out.2.1, HE.out.2.2⟩
end Go.Proofs.YtcfejobdgiiihaaGreatDoor

namespace Go.Proofs.YtcfejobdgiiihaaGreatDoor
open Go.RowKit

/-- the bytes that are laid so far -/
structure UpTo (ys zs : List Nat) (n : Nat) : Prop where
  len : zs.length = 608
  bd : ∀ d ∈ zs, d < 256
  at_ : ∀ i k, k < 8 → 8 * i + k < n → zs.getD (607 - (8 * i + k)) 0 = ys.getD i 0 / 2 ^ (8 * k) % 256
theorem UpTo.step {ys zs : List Nat} {i k x : Nat} (h : UpTo ys zs (8 * i + k)) (hi : i < 76) (hk : k < 8) (hx : x = ys.getD i 0 / 2 ^ (8 * k) % 256) : UpTo ys (zs.set (607 - (8 * i + k)) x) (8 * i + (k + 1)) := by
  obtain ⟨h1, h2, h3⟩ := h
  refine ⟨by simpa using h1, mem_set h2 (by rw [hx]; exact Nat.mod_lt _ (by decide)), fun i' k' hk' hn => ?_⟩
  by_cases e : 8 * i' + k' = 8 * i + k
  · obtain rfl : i' = i := by omega
    obtain rfl : k' = k := by omega
    rw [getD_set_eq (by omega), hx]
  · rw [getD_set_ne (by omega)]; exact h3 i' k' hk' (by omega)
theorem UpTo.bytes {ys zs : List Nat} (h : UpTo ys zs 608) : BytesOf ys zs := by
  refine ⟨h.len, fun i k hi hk => ?_⟩
  rw [Nat.sub_sub]; exact h.at_ i k hk (by omega)
theorem made8 (n : Nat) : (madeCells #[Value.int .u8 0] n).toList = i8s (List.replicate n 0) := by
  simp [i8s, madeCells, Nat.mod_one, List.map_const']
theorem make8 (W : World) : (Instr.makeSlice 157 (.int .i64 608) (.int .i64 608)).run Tryz.prog W = .ok (.slice (some ⟨W.heap.size, 0, none⟩) 608 608) (W.alloc (.cells (madeCells #[.int .u8 0] 608) 5)) :=
  run_make_row' (P := Tryz.prog) 157 5 (.int .u8 0) 1 (by kernel_rfl) (by kernel_rfl) rfl .i64 .i64 608 (by omega) (by omega) W
theorem index_words {ys : List Nat} (hl : ys.length = 76) {i : Nat} (hi : i < 76) (W : World) : (Instr.index 126 (.agg (i64s ys).toArray) (.int .i64 (i : Int))).run Tryz.prog W = .ok (.int .u64 (ys.getD i 0 : Nat)) W := by
  obtain ⟨info, hi2⟩ := info_of_underlying U50
  have p1 := run_part_plain W A50 (xs := (i64s ys).toArray) (off := i * 1) (by rw [Nat.mul_one]; exact i64s_get (by omega))
  have hs := run_sizeOf W hi2
  rw [C50] at hs
  have hb : (0 : Int) ≤ (i : Int) ∧ (i : Int) < (76 : Nat) := by omega
  simp only [Instr.index, asIntOf, Sem.run_bind, Sem.run_pure, Result.andThen_ok, run_underlying U126, hb, and_self, if_true, hs, Int.toNat_natCast, p1]
theorem Blk.at8 {w : World} {b t : Nat} {zs : List Nat} (h : Blk w b t (i8s zs)) {i : Nat} (hi : i < zs.length) :
    w.cell? ⟨b, i, none⟩ = some (.int .u8 (zs.getD i 0 : Nat)) ∧ w.frozen? ⟨b, i, none⟩ = false := by
  refine ⟨?_, h.frozen i⟩
  rw [h.cell]; simp [i8s, hi]
theorem Blk.set8 {w : World} {b t : Nat} {zs : List Nat} (h : Blk w b t (i8s zs)) (i x : Nat) (v : Int) (hv : v = x) :
    Blk (w.setCell ⟨b, i, none⟩ (.int .u8 v)) b t (i8s (zs.set i x)) := by
  subst hv
  have := h.set i (.int .u8 (x : Nat))
  simpa [i8s, List.map_set] using this
set_option maxHeartbeats 4000000 in
set_option maxRecDepth 100000 in
theorem awhole_calls (b : Nat) (X : Int) (w : World) (hb : AccI w b X) :
    Calls Tryz.prog 90 #[.pointer (some ⟨b, 0, none⟩)] w fun e w' => ∃ bz v, e = .returned (.pointer (some ⟨bz, 0, none⟩)) ∧ w.heap.size ≤ bz ∧ IntR w' bz v X.natAbs ∧ Below w.heap.size w w' := by
  obtain ⟨hX, ws, hw, hb⟩ := hb
  have HS := Lib.hid (asize_calls b X ws false w hb hw hX)
  clear hb hw hX
  have hmk := make8
  go_enter Tryz.func90, Tryz.ntmps90
  go_wp2_with fail
  refine HS.out.mono ?_
  rintro e w2 ⟨⟨ys, rfl, hm⟩, hW⟩
  have hI : Hid ((Tryz.prog.info? 126).map (·.size) = some (i64s ys).length) := by rw [i64s_length, hm.len]; exact I76
  have hL : Hid ((i64s (List.replicate 76 0)).length = (i64s ys).length) := by simp [Hid, i64s_length, hm.len]
  have hY : Hid (Blk (w2.alloc (.cells Tryz.zeroCells126 126)) w2.heap.size 126 (i64s (List.replicate 76 0) ++ [])) := by
    have := Blk.new w2 Tryz.zeroCells126 126
    rw [Z76] at this
    simpa [Hid] using this
  have HM := Lib.hid hm
  have HW := Lib.hid hW
  clear hm hW
  dsimp only
  repeat (first | (refine wp_store_front 126 (.tmp 3) (.tmp 9) (by rfl) w2.heap.size 126 (by rfl) (i64s (List.replicate 76 0)) [] (i64s ys) (by rfl) hY.out hL.out hI.out (i64s_one _) ?_; intro w3 hb3 hO3) | go_skip | go_guarded | go_step)
  have hsz3 : w3.heap.size = w2.heap.size + 1 := by rw [hO3.size]; simp
  have hR3 : Hid ((w3.alloc (.cells (madeCells #[.int .u8 0] 608) 5)).rangeAt w2.heap.size 0 (i64s ys)) := Blk.range (Blk.alloc (by simpa using hb3) _)
  have hZ3 : Hid (Blk (w3.alloc (.cells (madeCells #[.int .u8 0] 608) 5)) w3.heap.size 5 (i8s (List.replicate 608 0))) := by
    have := Blk.new w3 (madeCells #[.int .u8 0] 608) 5
    rw [made8] at this
    exact this
  have HW3 : Hid (Below w.heap.size w w3) := below_next HW.out ((below_new (Below.refl _ _) _).trans hO3.below)
  clear hb3 hO3 hY hL
  repeat (first | (refine wp_load_front 126 (.tmp 3) (by rfl) w2.heap.size (by rfl) (i64s ys) hR3.out A76 hI.out ?_) | go_skip | go_guarded | go_step)
  rw [hsz3] at hZ3
  have HZ3 := Lib.hid (And.intro hZ3.out hsz3)
  have hg : w.heap.size ≤ w2.heap.size + 1 := by have := HW.out.size; omega
  clear hR3 hI hZ3 hsz3 hmk HS
  have HIX := Lib.hid (fun i (hi : i < 76) W => index_words HM.out.len hi W)
  go_loopw [5, 6, 7, 12, 16] (fun _ _ _ iv _ wr => ∃ (i : Nat) (zs : List Nat), i ≤ 76 ∧ iv = .int .i64 i ∧ Hid (UpTo ys zs (8 * i)) ∧ Hid (Blk wr (w2.heap.size + 1) 5 (i8s zs)) ∧ Hid (Below (w2.heap.size + 1) w3 wr)) (fun _ _ _ iv _ _ => 76 - (intOf iv).toNat)
  case atStart => exact ⟨0, _, by omega, rfl, ⟨by simp, by intro d hd; simp at hd; subst hd; decide, fun i k _ h => by omega⟩, HZ3.out.1, by have := HZ3.out.2; exact (Below.refl _ _).alloc (by omega) _⟩
  case round =>
    obtain ⟨i, zs, hi, rfl, hU, hB, hW2⟩ := hrel
    by_cases hlt : i < 76
    · have hix := fun W => HIX.out i hlt W
      have hyb := getD_mem_lt HM.out.bd (i := i) (by have := HM.out.len; omega)
      obtain ⟨y, hy⟩ : ∃ y, ys.getD i 0 = y := ⟨_, rfl⟩
      simp only [hy] at hix
      rw [hy] at hyb
      have HY := Lib.hid hy
      clear hy
      go_wp2
      obtain ⟨wo, rfl⟩ : ∃ wo : World, wo = wr := ⟨_, rfl⟩
      go_loopw [7, 16] (fun _ kv wr => ∃ (k : Nat) (zs : List Nat), k ≤ 8 ∧ kv = .int .i64 k ∧ Hid (UpTo ys zs (8 * i + k)) ∧ Hid (Blk wr (w2.heap.size + 1) 5 (i8s zs)) ∧ Hid (Below (w2.heap.size + 1) w3 wr)) (fun _ kv _ => 8 - (intOf kv).toNat)
      case atStart => exact ⟨0, zs, by omega, rfl, hU.out, hB.out, hW2.out⟩
      case round =>
        obtain ⟨k, zs, hk, rfl, hU, hB, hW2⟩ := hrel
        by_cases hlt2 : k < 8
        · obtain ⟨p, hp⟩ : ∃ p : Nat, 607 - (8 * i + k) = p := ⟨_, rfl⟩
          have n1 : (607 : Int) - 8 * (i : Int) - (k : Int) = (p : Int) := by omega
          obtain ⟨hz1, hz2⟩ := hB.out.at8 (i := p) (by have := hU.out.len; omega)
          generalize zs.getD p 0 = z0 at *
          obtain ⟨s, hs⟩ : ∃ s : Nat, 8 * k = s := ⟨_, rfl⟩
          have n2 : 8 * (k : Int) = (s : Int) := by omega
          obtain ⟨q, hq⟩ : ∃ q : Nat, y / 2 ^ s = q := ⟨_, rfl⟩
          obtain ⟨r, hr⟩ : ∃ r : Nat, q % 256 = r := ⟨_, rfl⟩
          have n3 : (y : Int) / 2 ^ s = (q : Int) := by rw [shr_nat, hq]
          have n4 : (q : Int) % 256 = (r : Int) := by omega
          have hst := hU.out.step hlt hlt2 (x := r) (by rw [HY.out, hs, hq, hr])
          rw [hp] at hst
          have HST := Lib.hid hst
          have hpl : p < 608 := by omega
          have hs64 : s ≤ 64 := by omega
          have hs0 : (0 : Int) ≤ (s : Int) := by omega
          clear hp hst hs hq hr
          go_wp2
          go_roundw
          case rel => exact ⟨k + 1, _, by omega, by go_num, HST.out, hB.out.set8 _ _ _ rfl, hW2.out.setCell (p := ⟨w2.heap.size + 1, p, none⟩) (Nat.le_refl _) _⟩
          case measure => simp [intOf]; omega
        · obtain rfl : k = 8 := by omega
          go_wp2
          go_roundw
          case rel => exact ⟨i + 1, zs, by omega, by go_num, hU.out, hB.out, hW2.out⟩
          case measure => simp [intOf]; omega
    · obtain rfl : i = 76 := by omega
      have hwsz := hW2.out.size
      have hBz : Blk (wr.alloc (.cells #[.bool false, .slice none 0 0] 149)) wr.heap.size 149 [.bool false, .slice none 0 0] := Blk.new wr _ _
      have HC := Lib.hid (iSetBytes_calls wr.heap.size (w2.heap.size + 1) 5 X.natAbs ys zs _ hBz (hB.out.alloc _) HM.out hU.out.bytes)
      clear hBz
      go_wp2_with fail
      refine HC.out.mono ?_
      rintro e w4 ⟨rfl, v, hb4, hO4, hW4⟩
      have HE := Lib.hid (And.intro hb4 (And.intro hO4 hW4))
      clear hb4 hO4 hW4
      go_wp2
      go_ret
      have h1 : Below w.heap.size w wr := HW3.out.trans (hW2.out.mono hg)
      exact ⟨wr.heap.size, v, rfl, h1.size, ⟨HE.out.1, _, HE.out.2.1⟩, below_next h1 ((below_new (Below.refl _ _) _).trans HE.out.2.2)⟩
end Go.Proofs.YtcfejobdgiiihaaGreatDoor
