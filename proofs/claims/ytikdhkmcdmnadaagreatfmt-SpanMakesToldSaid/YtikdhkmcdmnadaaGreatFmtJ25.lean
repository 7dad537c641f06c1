/- Walks and plain laws of this seat's functions, part 25: G12 G17a G17c00. -/
import Derived.Test.YtikdhkmcdmnadaaGreatFmtJ17
import Derived.Test.YtikdhkmcdmnadaaGreatFmtJ22
import Derived.Test.YtikdhkmcdmnadaaGreatFmtJ23
import Derived.Test.YtikdhkmcdmnadaaGreatFmtJ24
set_option linter.unusedVariables false
set_option linter.unusedSimpArgs false
namespace Go.Proofs.YtikdhkmcdmnadaaGreatFmt
open Go.RowKit
attribute [local go_sem ↓] Go.wp_at_zero Go.wp_at_succ

/-- the exponent of a number below 2^L -/
theorem ex_bd {m n K L : Nat} {ex : Int} (hb : bl m = 64 * n) (hn : 0 < n) (h0 : 0 ≤ ex - ((64 * n : Nat) : Int) + K) (neg : Bool) (hX : (sg neg (m * 2 ^ (ex - ((64 * n : Nat) : Int) + K).toNat)).natAbs < 2 ^ L) : -(K : Int) ≤ ex ∧ ex + K ≤ L := by
  rw [sg_abs] at hX
  have h1 := (mag_bd hb hn h0).1
  refine ⟨by omega, ?_⟩
  have : (ex + K - 1).toNat < L := by
    rcases Nat.lt_or_ge (ex + K - 1).toNat L with h | h
    · exact h
    · have := Nat.pow_le_pow_right (n := 2) (by decide) h
      omega
  omega
set_option maxHeartbeats 4000000 in
set_option maxRecDepth 100000 in
theorem mul_zero (bz bx bY : Nat) (ax ay ex ey : Int) (fx fy : Int) (nx ny : Bool) (vx vy : Value) (w : World) (K N : Nat) (hz : Blk w bz 82 (fC 2300 0 0 false (.slice none 0 0) 0)) (hx : Blk w bx 82 (fC 2300 ax fx nx vx ex)) (hy : Blk w bY 82 (fC 2300 ay fy ny vy ey))
    (hnx : bx ≠ bz) (hny : bY ≠ bz) (hf : (fx = 0 ∧ fy = 0) ∨ (fx = 0 ∧ fy = 1) ∨ (fx = 1 ∧ fy = 0)) :
    Calls Tryz.prog 47 #[.pointer (some ⟨bz, 0, none⟩), .pointer (some ⟨bx, 0, none⟩), .pointer (some ⟨bY, 0, none⟩)] w fun e w' => e = .returned (.pointer (some ⟨bz, 0, none⟩)) ∧ FVal w' K N bz 0 ∧ Below bz w w' := by
  obtain ⟨c0, c1, c2, c3, c4, c5, c6⟩ := sev hx
  obtain ⟨d0, d1, d2, d3, d4, d5, d6⟩ := sev hy
  obtain ⟨z0, z1, z2, z3, z4, z5, z6⟩ := sev hz
  obtain ⟨f0, f1, f2, f3, f4, f5, f6⟩ := frz hz
  have HZ := Lib.hid hz
  clear hz hx hy
  rcases hf with ⟨rfl, rfl⟩ | ⟨rfl, rfl⟩ | ⟨rfl, rfl⟩
  all_goals (
    go_enter Tryz.func47, Tryz.ntmps47
    go_upto_region 5 with fail
    go_region)
  all_goals (
    go_wp2
    go_ret
    refine ⟨rfl, ⟨_, 0, _, _, _, ((HZ.out.set 4 (.bool (nx != ny))).set 2 (.int .i8 0)).set 3 (.int .u8 0), .inl ⟨rfl, rfl⟩⟩, ?_⟩
    exact ((((Below.refl bz w).setCell (p := ⟨bz, 4, none⟩) (Nat.le_refl _) _).setCell (p := ⟨bz, 2, none⟩) (Nat.le_refl _) _).setCell (p := ⟨bz, 3, none⟩) (Nat.le_refl _) _).drew)
theorem OwnN.setF {w : World} {B m b : Nat} {v : Value} {cs : List Value} (h : OwnN w B m v) (hb : Blk w b 82 cs) (i : Nat) (u : Value) : OwnN (w.setCell ⟨b, i, none⟩ u) B m v := by
  rcases h with h | ⟨g, Z, n, h1, h2, h3, h4⟩
  · exact .inl h
  · exact .inr ⟨g, Z, n, h1, h2, h3.far (p := ⟨b, i, none⟩) (h3.ne hb (by decide)) u, h4⟩
theorem Blk.set_far {w : World} {b b' t : Nat} {cs : List Value} (h : Blk w b t cs) (hne : b ≠ b') (i : Nat) (u : Value) : Blk (w.setCell ⟨b', i, none⟩ u) b t cs := h.far (p := ⟨b', i, none⟩) hne u
set_option maxHeartbeats 4000000 in
set_option maxRecDepth 100000 in
theorem mul_pos (bz bx bY m1 m2 B1 B2 : Nat) (ax ay ex ey : Int) (nx ny : Bool) (vx vy : Value) (w : World) (hz : Blk w bz 82 (fC 2300 0 0 false (.slice none 0 0) 0)) (hx : Blk w bx 82 (fC 2300 ax 1 nx vx ex)) (hy : Blk w bY 82 (fC 2300 ay 1 ny vy ey))
    (hnx : bx ≠ bz) (hny : bY ≠ bz) (ox : OwnN w B1 m1 vx) (oy : OwnN w B2 m2 vy) (l1 : bl m1 = 64) (l2 : bl m2 = 64) (hne : bx ≠ bY) (he1 : -9000 ≤ ex ∧ ex ≤ 9000) (he2 : -9000 ≤ ey ∧ ey ≤ 9000) :
    Calls Tryz.prog 47 #[.pointer (some ⟨bz, 0, none⟩), .pointer (some ⟨bx, 0, none⟩), .pointer (some ⟨bY, 0, none⟩)] w fun e w' => e = .returned (.pointer (some ⟨bz, 0, none⟩)) ∧
      (∃ (v : Value) (s n : Nat) (B : Nat), bl (m1 * m2) + s = 64 * n ∧ 0 < n ∧ n ≤ 2 ∧ s < 64 ∧ Blk w' bz 82 (fC 2300 0 1 (!nx == ny) v (ex + ey - s)) ∧ OwnN w' B (m1 * m2 * 2 ^ s) v) ∧ Below bz w w' := by
  obtain ⟨c0, c1, c2, c3, c4, c5, c6⟩ := sev hx
  obtain ⟨d0, d1, d2, d3, d4, d5, d6⟩ := sev hy
  obtain ⟨z0, z1, z2, z3, z4, z5, z6⟩ := sev hz
  obtain ⟨f0, f1, f2, f3, f4, f5, f6⟩ := frz hz
  have HU := Lib.hid (umul_one bz bx bY m1 m2 B1 B2 ax ay ex ey (!nx == ny) nx ny vx vy (w.setCell ⟨bz, 4, none⟩ (.bool (!nx == ny))).drew (hz.set 4 (.bool (!nx == ny))) (hx.set_far hnx 4 _) (hy.set_far hny 4 _) (ox.setF hz 4 _) (oy.setF hz 4 _) l1 l2 hne he1 he2)
  have HW := Lib.hid (((Below.refl bz w).setCell (p := ⟨bz, 4, none⟩) (Nat.le_refl _) (.bool (!nx == ny))).drew)
  clear hz hx hy ox oy l1 l2 he1 he2
  go_enter Tryz.func47, Tryz.ntmps47
  go_upto_region 5 with fail
  go_region
  all_goals (
    go_wp2_with fail
    refine HU.out.mono ?_
    rintro e w2 ⟨rfl, v, s, n, B, k1, k2, k3, k4, k5, k6, k7⟩
    have H2 : Hid ((∃ (v : Value) (s n : Nat) (B : Nat), bl (m1 * m2) + s = 64 * n ∧ 0 < n ∧ n ≤ 2 ∧ s < 64 ∧ Blk w2 bz 82 (fC 2300 0 1 (!nx == ny) v (ex + ey - s)) ∧ OwnN w2 B (m1 * m2 * 2 ^ s) v) ∧ Below bz w w2) := ⟨⟨v, s, n, B, k1, k2, k3, k4, k5, k6⟩, HW.out.trans k7⟩
    clear k1 k2 k3 k4 k5 k6 k7
    go_wp2
    go_ret
    exact ⟨rfl, H2.out.1, H2.out.2⟩)
theorem bl_prod {m1 m2 : Nat} (l1 : bl m1 = 64) (l2 : bl m2 = 64) : 127 ≤ bl (m1 * m2) ∧ m1 * m2 ≠ 0 := by
  have h1 : m1 ≠ 0 := by intro h; subst h; rw [bl_zero] at l1; omega
  have h2 : m2 ≠ 0 := by intro h; subst h; rw [bl_zero] at l2; omega
  have a1 := bl_le h1
  have a2 := bl_le h2
  rw [l1] at a1
  rw [l2] at a2
  have h3 : 2 ^ (64 - 1) * 2 ^ (64 - 1) ≤ m1 * m2 := Nat.mul_le_mul a1 a2
  have h4 := bl_lt (m1 * m2)
  refine ⟨?_, Nat.mul_ne_zero h1 h2⟩
  rcases Nat.lt_or_ge (bl (m1 * m2)) 127 with h | h
  · have : 2 ^ bl (m1 * m2) ≤ 2 ^ 126 := Nat.pow_le_pow_right (by decide) (by omega)
    have e : 2 ^ (64 - 1) * 2 ^ (64 - 1) = 2 ^ 126 := by decide
    omega
  · exact h
theorem prod_mag {m1 m2 s K1 K2 : Nat} {ex ey : Int} (z1 : 0 ≤ ex - ((64 * 1 : Nat) : Int) + K1) (z2 : 0 ≤ ey - ((64 * 1 : Nat) : Int) + K2) (hs : s < 64) :
    m1 * 2 ^ (ex - ((64 * 1 : Nat) : Int) + K1).toNat * (m2 * 2 ^ (ey - ((64 * 1 : Nat) : Int) + K2).toNat) * 2 ^ 64 = m1 * m2 * 2 ^ s * 2 ^ (ex + ey - s - ((64 * 2 : Nat) : Int) + ((K1 + K2 + 64 : Nat) : Int)).toNat := by
  have x : s + (ex + ey - s - ((64 * 2 : Nat) : Int) + ((K1 + K2 + 64 : Nat) : Int)).toNat = (ex - ((64 * 1 : Nat) : Int) + K1).toNat + ((ey - ((64 * 1 : Nat) : Int) + K2).toNat + 64) := by omega
  rw [Nat.mul_assoc (m1 * m2), ← Nat.pow_add, x, Nat.pow_add, Nat.pow_add]
  generalize 2 ^ (ex - ((64 * 1 : Nat) : Int) + K1).toNat = a
  generalize 2 ^ (ey - ((64 * 1 : Nat) : Int) + K2).toNat = b
  generalize 2 ^ 64 = c
  rw [Nat.mul_assoc m1 m2, Nat.mul_left_comm m2, ← Nat.mul_assoc m1, ← Nat.mul_assoc m2, Nat.mul_assoc (m1 * a)]
/-- X * Y -/
theorem mulf_calls (bz bx bY K1 K2 L : Nat) (X Y : Int) (w : World) (hz : Blk w bz 82 (fC 2300 0 0 false (.slice none 0 0) 0)) (hx : FVal w K1 1 bx X) (hy : FVal w K2 1 bY Y) (hne : bx ≠ bY) (hnx : bx ≠ bz) (hny : bY ≠ bz) (hK1 : K1 ≤ 4000) (hK2 : K2 ≤ 4000) (hX : X.natAbs < 2 ^ L) (hY : Y.natAbs < 2 ^ L) (hL : L ≤ 5000) :
    Calls Tryz.prog 47 #[.pointer (some ⟨bz, 0, none⟩), .pointer (some ⟨bx, 0, none⟩), .pointer (some ⟨bY, 0, none⟩)] w fun e w' => e = .returned (.pointer (some ⟨bz, 0, none⟩)) ∧ FVal w' (K1 + K2 + 64) 2 bz (X * Y * ((2 ^ 64 : Nat) : Int)) ∧ Below bz w w' := by
  obtain ⟨ax, fx, nx, vx, ex, bxb, hvx⟩ := hx
  obtain ⟨ay, fy, ny, vy, ey, byb, hvy⟩ := hy
  have zero : ((fx : Int) = 0 ∧ (fy : Int) = 0 ∨ (fx : Int) = 0 ∧ (fy : Int) = 1 ∨ (fx : Int) = 1 ∧ (fy : Int) = 0) → X * Y = 0 → Calls Tryz.prog 47 #[.pointer (some ⟨bz, 0, none⟩), .pointer (some ⟨bx, 0, none⟩), .pointer (some ⟨bY, 0, none⟩)] w fun e w' => e = .returned (.pointer (some ⟨bz, 0, none⟩)) ∧ FVal w' (K1 + K2 + 64) 2 bz (X * Y * ((2 ^ 64 : Nat) : Int)) ∧ Below bz w w' := by
    intro h h0
    rw [h0, Int.zero_mul]
    exact mul_zero bz bx bY ax ay ex ey fx fy nx ny vx vy w _ _ hz bxb byb hnx hny h
  rcases hvx with ⟨rfl, rfl⟩ | ⟨rfl, B1, m1, n1, o1, l1, p1, q1, z1, rfl, e1⟩
  · rcases hvy with ⟨rfl, rfl⟩ | ⟨rfl, _⟩
    · exact zero (.inl ⟨rfl, rfl⟩) (Int.zero_mul _)
    · exact zero (.inr (.inl ⟨rfl, rfl⟩)) (Int.zero_mul _)
  · rcases hvy with ⟨rfl, rfl⟩ | ⟨rfl, B2, m2, n2, o2, l2, p2, q2, z2, rfl, e2⟩
    · exact zero (.inr (.inr ⟨rfl, rfl⟩)) (Int.mul_zero _)
    · obtain rfl : n1 = 1 := by omega
      obtain rfl : n2 = 1 := by omega
      have g1 := ex_bd l1 (by decide) z1 nx hX
      have g2 := ex_bd l2 (by decide) z2 ny hY
      refine (mul_pos bz bx bY m1 m2 B1 B2 ax ay ex ey nx ny vx vy w hz bxb byb hnx hny o1 o2 l1 l2 hne (by omega) (by omega)).mono ?_
      rintro e w' ⟨rfl, ⟨v, s, n, B, k1, k2, k3, k4, k5, k6⟩, hW⟩
      obtain ⟨p1, p2⟩ := bl_prod l1 l2
      obtain rfl : n = 2 := by omega
      refine ⟨rfl, ⟨0, 1, _, v, _, k5, .inr ⟨rfl, B, _, 2, k6, by rw [bl_mul_pow p2, k1], k2, k3, by omega, ?_, by omega⟩⟩, hW⟩
      rw [sg_times, sg_pow, prod_mag z1 z2 k4]
      rfl
end Go.Proofs.YtikdhkmcdmnadaaGreatFmt

namespace Go.Proofs.YtikdhkmcdmnadaaGreatFmt
open Go.RowKit
attribute [local go_sem ↓] Go.wp_at_zero Go.wp_at_succ

/-! ### round to p bits -/
theorem slice_from32 (T : Nat) (hT : Tryz.prog.underlying T = some (.slice 109)) (W : World) (g n c k : Nat) (i : Int) (hi : i = k) (hk : k < n) (hnc : n ≤ c) :
    (Instr.slice T (.slice (some ⟨g, 0, none⟩) n c) (some (.int .u32 i)) none none).run Tryz.prog W = .ok (.slice (some ⟨g, k, none⟩) (n - k) (c - k)) W := by
  subst hi
  obtain ⟨j, hj, _, hs, _⟩ := word_info
  have h1 : k ≤ n := by omega
  have h2 : c ≠ k := by omega
  simp [Instr.slice, run_underlying hT, Instr.sliceBounds, Instr.sliceBound, asIntOf, h1, h2, sizeOf, typeInfo, hj, hs, Addr.add]
  intro h; exact h.symm
theorem slice_to32 (T : Nat) (hT : Tryz.prog.underlying T = some (.slice 109)) (W : World) (A : Option Addr) (n c j : Nat) (i : Int) (hi : i = j) (hj : j ≤ c) :
    (Instr.slice T (.slice A n c) none (some (.int .u32 i)) none).run Tryz.prog W = .ok (.slice A j c) W := by
  subst hi
  obtain ⟨u, hu, _, hs, _⟩ := word_info
  simp [Instr.slice, run_underlying hT, Instr.sliceBounds, Instr.sliceBound, asIntOf, hj, sizeOf, typeInfo, hu, hs]
  intro _
  cases A with
  | none => rfl
  | some a => simp [Addr.add]
theorem copy_top {w : World} {g : Nat} {Z : List Nat} (hb : Blk w g 109 (i64s Z)) (n k t cx ty : Nat) (h0 : 0 < n) (hn : n ≤ Z.length) (ht : w.cell? ⟨g, k, none⟩ = some (.int .u64 t)) :
    (Builtin.copy_ #[80, 80] ty #[.slice (some ⟨g, 0, none⟩) n Z.length, .slice (some ⟨g, k, none⟩) 1 cx]).run Tryz.prog w = .ok (.int .i64 1) (w.setRow g (i64s (t :: Z.drop 1)).toArray) := by
  have hu : Tryz.prog.underlying 80 = some (.slice 109) := by kernel_rfl
  have hsz : (Tryz.prog.info? 109).map (·.size) = some 1 := by kernel_rfl
  have := run_copy_row (P := Tryz.prog) w 80 80 ty 109 g 0 n Z.length ⟨g, k, none⟩ 1 cx (i64s Z).toArray 109 [.int .u64 t] hu hsz hb (Nat.min_eq_left (by omega : 1 ≤ n)).symm (fun j v hj => by
    rcases j with _ | j
    · simp at hj; subst hj; simpa [Addr.add] using ht
    · simp at hj) (by simp [i64s]; omega) (by intro v hv; simp at hv; subst hv; rfl)
  have e : i64s (t :: Z.drop 1) = (i64s Z).toArray.toList.take 0 ++ [.int .u64 t] ++ (i64s Z).toArray.toList.drop (0 + [Value.int .u64 (t : Int)].length) := by
    simp [i64s, List.map_drop]
  rw [e]; exact this
theorem cons_of {Z : List Nat} {t : Nat} (hl : 0 < Z.length) (ht : Z.getD 0 0 = t) : Z = t :: Z.drop 1 := by
  cases Z with
  | nil => simp at hl
  | cons a Z => simp at ht; subst ht; rfl
set_option maxRecDepth 100000 in
set_option maxHeartbeats 1000000 in
theorem rsh_self1 (g c1 c2 x : Nat) (Z : List Nat) (w : World) (hg : Blk w g 109 (i64s Z)) (hz : ∀ d ∈ Z, d < B64) (hl : 0 < Z.length) (hx : Z.getD 0 0 = x) :
    Calls Tryz.prog 60 #[.slice (some ⟨g, 0, none⟩) 1 c1, .slice (some ⟨g, 0, none⟩) 1 c2, .int .u64 1] w fun e w' => ∃ v : Int, e = .returned (.int .u64 v) ∧ Blk w' g 109 (i64s (Z.set 0 (x / 2))) ∧ Only g w w' := by
  obtain ⟨x', hct, hft, hxb, hxe⟩ := hg.at64 (i := 0) hl hz
  obtain rfl : x' = x := hxe.out.symm.trans hx
  have HG := Lib.hid hg
  have h1 : bits .and .u64 1 63 = 1 := by decide
  have h2 : bits .and .u64 63 63 = 63 := by decide
  obtain ⟨u, hu⟩ : ∃ u, x' / 2 = u := ⟨_, rfl⟩
  have h3 : (x' : Int) / 2 = (u : Int) := by omega
  rw [hu]
  clear hg hz hl hx hxe hu
  go_enter Tryz.func60, Tryz.ntmps60
  go_wp2
  go_loop [8] (fun i => i = .int .i64 1) (fun _ => 0)
  case atStart => rfl
  case round =>
    subst hrel
    go_wp2
    go_ret
    exact ⟨⟨_, rfl⟩, HG.out.set64 0 _ _ rfl, (Only.refl g w).setCell rfl _⟩
theorem addvw1 (g c1 c2 t y : Nat) (Z : List Nat) (w : World) (hg : Blk w g 109 (i64s Z)) (hz : ∀ d ∈ Z, d < B64) (hl : 0 < Z.length) (hx : Z.getD 0 0 = t) (hy : y < B64) (h1 : 1 ≤ c1) (h2 : 1 ≤ c2) :
    Calls Tryz.prog 80 #[.slice (some ⟨g, 0, none⟩) 1 c1, .slice (some ⟨g, 0, none⟩) 1 c2, .int .u64 y] w fun e w' => e = .returned (.int .u64 (((t + y) / 18446744073709551616 : Nat) : Int)) ∧ Blk w' g 109 (i64s (Z.set 0 ((t + y) % 18446744073709551616))) ∧ Only g w w' := by
  have hZ := cons_of hl hx
  have htb : t < B64 := by rw [← hx]; exact getD_mem_lt hz hl
  have hg' : Blk w g 109 (i64s ([] ++ ([t] ++ Z.drop 1))) := by
    have e : [] ++ ([t] ++ Z.drop 1) = Z := by rw [List.nil_append, List.singleton_append]; exact hZ.symm
    rw [e]; exact hg
  have hzb : ∀ d ∈ ([] : List Nat) ++ ([t] ++ Z.drop 1), d < B64 := by
    have e : [] ++ ([t] ++ Z.drop 1) = Z := by rw [List.nil_append, List.singleton_append]; exact hZ.symm
    rw [e]; exact hz
  refine (addVW_calls ⟨g, 0, none⟩ 1 y c1 c2 g 0 [t] [] [t] (Z.drop 1) w rfl hg' rfl rfl hzb (CellsAt.blk hg' rfl rfl) (.inl ⟨rfl, rfl⟩) (by simpa using htb) (by decide) hy (by decide) (by decide) h1 h2 ⟨_, _, hg'⟩).mono ?_
  rintro e w' ⟨v, rs, rfl, hb, hd, ho⟩
  obtain ⟨d1, d2, d3, d4⟩ := hd
  obtain ⟨r, rfl⟩ : ∃ r, rs = [r] := by
    cases rs with
    | nil => simp at d1
    | cons a rs => cases rs with
      | nil => exact ⟨a, rfl⟩
      | cons b rs => simp at d1
  have hr := d2 r (by simp)
  simp only [val, Nat.mul_zero, Nat.add_zero, List.length_singleton, Nat.pow_one] at d4
  simp only [B64] at *
  have e1 : (t + y) / 18446744073709551616 = v := by omega
  have e2 : (t + y) % 18446744073709551616 = r := by omega
  rw [e1, e2]
  refine ⟨rfl, ?_, ho⟩
  have e3 : Z.set 0 r = [] ++ ([r] ++ Z.drop 1) := by rw [hZ]; rfl
  rw [e3]; exact hb
theorem and_bit {t s : Nat} (ht : t < 18446744073709551616) (hs : s < 64) : bits .and .u64 (t : Int) ((2 ^ s : Nat) : Int) = ((t / 2 ^ s % 2 * 2 ^ s : Nat) : Int) := by
  have h2 : 2 ^ s < 18446744073709551616 := Nat.lt_of_le_of_lt (Nat.pow_le_pow_right (by decide) (show s ≤ 63 by omega)) (by decide)
  rw [u64_and_nat _ _ ht h2]
  refine congrArg (fun x : Nat => (x : Int)) ?_
  have e : t / 2 ^ s % 2 * 2 ^ s = ((t >>> s) % 2 ^ 1) <<< s := by rw [Nat.shiftLeft_eq, Nat.shiftRight_eq_div_pow, Nat.pow_one]
  rw [e]
  apply Nat.eq_of_testBit_eq
  intro i
  rw [Nat.testBit_and, Nat.testBit_two_pow, Nat.testBit_shiftLeft, Nat.testBit_mod_two_pow, Nat.testBit_shiftRight]
  by_cases h : s = i
  · subst h; simp
  · by_cases h3 : s ≤ i
    · have : ¬ i - s < 1 := by omega
      simp [h, this]
    · simp [h, h3]
theorem carry_word {t l u : Nat} (s : Nat) (hs : s ≤ 63) (hl : 2 ^ s = l) (h1 : t < 18446744073709551616) (h2 : 18446744073709551616 ≤ t + l) (hu : u = (t + l) % 18446744073709551616 / 2) : u < 9223372036854775808 ∧ (u + 9223372036854775808) / l * l = 9223372036854775808 := by
  have hl0 : 0 < l := by rw [← hl]; exact Nat.pow_pos (by decide)
  have e : 9223372036854775808 = l * 2 ^ (63 - s) := by rw [← hl, ← Nat.pow_add, show s + (63 - s) = 63 from by omega]
  have hul : u < l := by omega
  refine ⟨by omega, ?_⟩
  rw [e, Nat.add_mul_div_left _ _ hl0, Nat.div_eq_of_lt hul, Nat.zero_add, Nat.mul_comm]
abbrev fP (p : Nat) (acc : Int) (neg : Bool) (v : Value) (ex : Int) : List Value := [.int .u32 p, .int .u8 0, .int .i8 acc, .int .u8 1, .bool neg, v, .int .i32 ex]
theorem u32wi (x : Int) (h : 0 ≤ x ∧ x < 4294967296) : IntKind.u32.wrap x = x := by simp [IntKind.wrap, IntKind.bits, IntKind.signed]; omega
def accM (neg rest : Bool) (hv : Nat) : Int := if hv % 2 = 0 ∧ rest = false then 0 else if moreH 0 false rest hv != neg then 1 else -1
/-- a Float cut to p bits: its word W, its exponent X -/
def RCut (b g p hv : Nat) (neg rest : Bool) (ex : Int) (N : Nat) (w w' : World) : Prop :=
  ∃ (W : Nat) (X : Int) (Z' : List Nat),
      Blk w' b 82 (fP p (accM neg rest hv) neg (.slice (some ⟨g, 0, none⟩) 1 N) X) ∧ Blk w' g 109 (i64s Z') ∧ Z'.getD 0 0 = W ∧ Z'.length = N ∧ (∀ d ∈ Z', d < B64) ∧
      ((hv / 2 + (moreH 0 false rest hv).toNat = 2 ^ p ∧ X = ex + 1 ∧ W = 9223372036854775808) ∨ (hv / 2 + (moreH 0 false rest hv).toNat < 2 ^ p ∧ X = ex ∧ W = (hv / 2 + (moreH 0 false rest hv).toNat) * 2 ^ (64 - p))) ∧ Below (min b g) w w'
theorem RCut.intro {b g p hv N W : Nat} {neg rest mo : Bool} {ex X acc : Int} {w w' : World} {Z' : List Nat} (hmo : moreH 0 false rest hv = mo) (hacc : accM neg rest hv = acc)
    (hb : Blk w' b 82 (fP p acc neg (.slice (some ⟨g, 0, none⟩) 1 N) X)) (hg : Blk w' g 109 (i64s Z')) (hW : Z'.getD 0 0 = W) (hl : Z'.length = N) (hz : ∀ d ∈ Z', d < B64)
    (hc : (hv / 2 + mo.toNat = 2 ^ p ∧ X = ex + 1 ∧ W = 9223372036854775808) ∨ (hv / 2 + mo.toNat < 2 ^ p ∧ X = ex ∧ W = (hv / 2 + mo.toNat) * 2 ^ (64 - p))) (hB : Below (min b g) w w') : RCut b g p hv neg rest ex N w w' := by
  subst hmo hacc
  exact ⟨W, X, Z', hb, hg, hW, hl, hz, hc, hB⟩
theorem moreH0 (rest : Bool) (h : Nat) : moreH 0 false rest h = (decide (h % 2 = 1) && (rest || decide (h / 2 % 2 = 1))) := by unfold moreH; simp
end Go.Proofs.YtikdhkmcdmnadaaGreatFmt

namespace Go.Proofs.YtikdhkmcdmnadaaGreatFmt
open Go.RowKit
attribute [local go_sem ↓] Go.wp_at_zero Go.wp_at_succ

set_option maxHeartbeats 8000000 in
set_option maxRecDepth 100000 in
theorem round_c00 (b g n p hv m : Nat) (Z : List Nat) (acc ex : Int) (neg rest : Bool) (w : World) (hb : Blk w b 82 (fP p acc neg (.slice (some ⟨g, 0, none⟩) n Z.length) ex)) (hg : Blk w g 109 (i64s Z)) (hz : ∀ d ∈ Z, d < B64) (hn : n ≤ Z.length) (hl : Z.length ≤ 1099511627776)
    (hm : val B64 (Z.take n) = m) (hbl : bl m = 64 * n) (h0 : 0 < n) (h35 : n ≤ 35) (hp0 : 0 < p) (hp53 : p ≤ 53) (hex : -20000 ≤ ex ∧ ex ≤ 20000) (hh : hv = m / 2 ^ (64 * n - p - 1)) (hr : rest = restB (m % 2 ^ (64 * n - p - 1))) (hrb0 : hv % 2 = 0) (hrest : rest = false) :
    Calls Tryz.prog 64 #[.pointer (some ⟨b, 0, none⟩), .int .u64 0] w fun e w' => e = .returned (.tuple #[]) ∧ RCut b g p hv neg rest ex Z.length w w' := by
  obtain ⟨c0, c1, c2, c3, c4, c5, c6⟩ := sev hb
  obtain ⟨f0, f1, f2, f3, f4, f5, f6⟩ := frz hb
  have hbg : b ≠ g := (hg.ne hb (by decide)).symm
  have hxl : (Z.take n).length = n := by rw [List.length_take]; omega
  obtain ⟨t, hct, hft, htb, hte⟩ := hg.at64 (i := n - 1) (by omega) hz
  have htop : t = m / 2 ^ (64 * (n - 1)) := by
    have h1 := val_split1 B64 (Z.take n) (n - 1) (by omega)
    have hlt := val_lt (B := B64) (by decide) ((Z.take n).take (n - 1)) (fun d hd => hz d (List.mem_of_mem_take (List.mem_of_mem_take hd)))
    have e1 : (Z.take n).getD (n - 1) 0 = t := by rw [List.getD_eq_getElem?_getD, List.getElem?_take, if_pos (by omega), ← List.getD_eq_getElem?_getD]; exact hte.out
    have e2 : (Z.take n).drop (n - 1 + 1) = [] := List.drop_of_length_le (by omega)
    rw [List.length_take, Nat.min_eq_left (by omega), pow64] at hlt
    rw [hm, e1, e2, pow64] at h1
    simp only [val, Nat.mul_zero, Nat.add_zero] at h1
    rw [h1, Nat.add_mul_div_left _ _ (Nat.pow_pos (by decide)), Nat.div_eq_of_lt hlt, Nat.zero_add]
  have hct1 := cut_top hbl h0 hp0 hp53 htop hh
  obtain ⟨R, hR⟩ : ∃ R, 64 * n - p - 1 = R := ⟨_, rfl⟩
  rw [hR] at hh hr
  obtain ⟨s, hs⟩ : ∃ s, 64 - p = s := ⟨_, rfl⟩
  have e1 : (n : Int) * 64 - (p : Int) - 1 = (R : Int) := by omega
  have e2 : (64 : Int) - (p : Int) = (s : Int) := by omega
  have HBIT := Lib.hid (fun W (hW : Only b w W) => nbit_calls (some ⟨g, 0, none⟩) n Z.length 109 0 R (Z.take n) W hxl (u64row ((hW.block g (Ne.symm hbg)).trans hg) hz n) (by omega) (by omega))
  have HSTK := Lib.hid (fun W (hW : Only b w W) => nsticky_calls (some ⟨g, 0, none⟩) n Z.length 109 0 R (Z.take n) W hxl (u64row ((hW.block g (Ne.symm hbg)).trans hg) hz n) (by omega) (by omega) hn hl)
  rw [hm, ← hh] at HBIT
  rw [hm, ← hr] at HSTK
  have u1 := u32w n (by omega)
  have u2 : IntKind.u32.wrap ((n : Int) * 64) = (n : Int) * 64 := u32wi _ (by omega)
  have u3 : ¬ ((n : Int) * 64 ≤ (p : Int)) := by omega
  have u4 : IntKind.u32.wrap ((n : Int) * 64 - (p : Int)) = (n : Int) * 64 - (p : Int) := u32wi _ (by omega)
  have u5 : IntKind.u32.wrap (R : Int) = R := u32w R (by omega)
  have u6 : IntKind.u64.wrap (R : Int) = R := u64w R (by omega)
  have u7 : IntKind.u32.wrap ((p : Int) + 63) = (p : Int) + 63 := u32wi _ (by omega)
  have u8 : ((p : Int) + 63) / 64 = 1 := by omega
  have HO0 := Lib.hid ((Only.refl b w).setCell (p := ⟨b, 2, none⟩) rfl (.int .i8 0))
  have HB := Lib.hid (And.intro hb (And.intro hg (And.intro hz (And.intro hn (And.intro hl hte.out)))))
  have HN := Lib.hid (And.intro h0 (And.intro h35 (And.intro hp0 (And.intro hp53 (And.intro hex hs)))))
  have HT := Lib.hid (And.intro hct1 htb)
  obtain ⟨rb, hrb⟩ : ∃ r, hv % 2 = r := ⟨_, rfl⟩
  have hrb2 : rb = 0 ∨ rb = 1 := by omega
  rw [hrb] at HBIT
  have HRB := Lib.hid hrb
  clear hb hg hz hn hl hm hbl h35 hp0 hp53 hex hh hr hxl htop hte htb hct1 hR hs hrb
  obtain ⟨k, hk⟩ : ∃ k, n - 1 = k := ⟨_, rfl⟩
  rw [hk] at hct hft
  have HK := Lib.hid hk
  have u9 : IntKind.u32.wrap ((n : Int) - 1) = (k : Int) := by rw [u32wi _ (by have := HN.out; omega)]; have := HN.out; omega
  have hsl1 : n ≠ 1 → ∀ W, (Instr.slice 80 (.slice (some ⟨g, 0, none⟩) n Z.length) (some (.int .u32 (k : Int))) none none).run Tryz.prog W = .ok (.slice (some ⟨g, k, none⟩) 1 (Z.length - k)) W := fun h W => by
    have := slice_from32 80 (by kernel_rfl) W g n Z.length k k rfl (by have := HN.out; omega) HB.out.2.2.2.1
    rwa [show n - k = 1 from by have := HN.out; omega] at this
  have hsl2 := fun W => slice_to32 80 (by kernel_rfl) W (some ⟨g, 0, none⟩) n Z.length 1 1 rfl (by have := HN.out; have := HB.out.2.2.2.1; omega)
  have hsl3 := fun W => slice_to32 80 (by kernel_rfl) W (some ⟨g, 0, none⟩) n Z.length 1 _ u8 (by have := HN.out; have := HB.out.2.2.2.1; omega)
  obtain ⟨RR, hRR⟩ : ∃ R, (i64s (t :: Z.drop 1)).toArray = R := ⟨_, rfl⟩
  have hcp : n ≠ 1 → ∀ ty, (Builtin.copy_ #[80, 80] ty #[.slice (some ⟨g, 0, none⟩) n Z.length, .slice (some ⟨g, k, none⟩) 1 (Z.length - k)]).run Tryz.prog ((w.setCell ⟨b, 2, none⟩ (.int .i8 0)).drew) = .ok (.int .i64 1) (((w.setCell ⟨b, 2, none⟩ (.int .i8 0)).drew).setRow g RR) := fun h ty => by
    rw [← hRR]
    exact copy_top (w := (w.setCell ⟨b, 2, none⟩ (.int .i8 0)).drew) (HB.out.2.1.set_far (Ne.symm hbg) 2 _) n k t _ ty (by have := HN.out; omega) HB.out.2.2.2.1 (cell_far (by exact (Ne.symm hbg)) hct)
  have HRR := Lib.hid hRR
  clear hk hRR
  obtain rfl : rb = 0 := HRB.out.symm.trans hrb0
  subst hrest
  clear hrb0 hrb2
  have b1 : bits .and .u64 0 1 = 0 := by decide
  have b2 : bits .and .u64 0 1 = 0 := by decide
  go_enter Tryz.func64, Tryz.ntmps64
  go_wp2_with fail
  refine (HBIT.out _ HO0.out).mono ?_
  rintro e w' ⟨rfl, rfl⟩
  go_wp2_with fail
  refine (HSTK.out _ HO0.out).mono ?_
  rintro e w' ⟨rfl, rfl⟩
  go_upto_if 80 with fail
  go_cut [8] (fun s8 wx => s8 = .int .u32 1 ∧ ∃ Z1 : List Nat, Blk wx b 82 (fP p 0 neg (.slice (some ⟨g, 0, none⟩) 1 Z.length) ex) ∧ Blk wx g 109 (i64s Z1) ∧ Z1.length = Z.length ∧ (∀ d ∈ Z1, d < B64) ∧ Z1.getD 0 0 = t ∧ Below (min b g) w wx)
  case first =>
    by_cases hn1 : n = 1
    · subst hn1
      have e3 : Hid (0 = k) := by have := HK.out; rw [Hid]; omega
      clear hsl1 hsl2 hsl3 hcp
      go_wp2
      go_meet
      obtain ⟨k1, k2, k3, k4, k5, k6⟩ := HB.out
      refine ⟨by rw [u8], Z, k1.set 2 (.int .i8 0), k2.set_far (Ne.symm hbg) 2 _, rfl, k3, by rw [show 1 - 1 = 0 from rfl] at k6; exact k6, ((HO0.out.below).mono (Nat.min_le_left _ _))⟩
    · have hn2 : (1 : Int) < (n : Int) := by have := HN.out; omega
      have hsl1' := hsl1 hn1
      have hcp' := hcp hn1
      have HN1 := Lib.hid hn1
      clear hsl1 hcp hn1
      go_wp2
      go_region
      all_goals (
        obtain ⟨k1, k2, k3, k4, k5, k6⟩ := HB.out
        have hb3 : Blk (((w.setCell ⟨b, 2, none⟩ (.int .i8 0)).drew).setRow g RR) b 82 (fP p 0 neg (.slice (some ⟨g, 0, none⟩) n Z.length) ex) := (setRow_other _ g b RR hbg).trans (k1.set 2 (.int .i8 0))
        have hg3 : Blk (((w.setCell ⟨b, 2, none⟩ (.int .i8 0)).drew).setRow g RR) g 109 (i64s (t :: Z.drop 1)) := by
          rw [← HRR.out]; exact Blk.setRow (w := (w.setCell ⟨b, 2, none⟩ (.int .i8 0)).drew) (k2.set_far (Ne.symm hbg) 2 _) _
        have hW3 : Below (min b g) w (((w.setCell ⟨b, 2, none⟩ (.int .i8 0)).drew).setRow g RR) := below_setRow ((HO0.out.below.mono (Nat.min_le_left _ _)).drew) (Nat.min_le_right _ _) RR
        have HZ3 : Hid ((t :: Z.drop 1).length = Z.length ∧ (∀ d ∈ t :: Z.drop 1, d < B64)) := by
          refine ⟨by simp; have := HN.out; omega, fun d hd => ?_⟩
          rcases List.mem_cons.1 hd with h | h
          · rw [h]; exact HT.out.2
          · exact k3 d (List.mem_of_mem_drop h)
        obtain ⟨w3, hw3⟩ : ∃ W, ((w.setCell ⟨b, 2, none⟩ (.int .i8 0)).drew).setRow g RR = W := ⟨_, rfl⟩
        rw [hw3] at hb3 hg3 hW3 ⊢
        have H3 := Lib.hid (And.intro hb3 (And.intro hg3 hW3))
        clear k1 k2 k3 k4 k5 k6 hw3 hb3 hg3 hW3 hcp'
        obtain ⟨d0, d1, d2, d3, d4, d5, d6⟩ := sev H3.out.1
        obtain ⟨g0, g1, g2, g3, g4, g5, g6⟩ := frz H3.out.1
        go_wp2
        all_goals (
          go_meet
          refine ⟨by rw [u8], t :: Z.drop 1, H3.out.1.set 5 _, H3.out.2.1.set_far (Ne.symm hbg) 5 _, HZ3.out.1, HZ3.out.2, rfl, ?_⟩
          exact H3.out.2.2.setCell (p := ⟨b, 5, none⟩) (Nat.min_le_left _ _) _))
  case rest =>
    obtain ⟨rfl, Z1, hb1, hg1, hl1, hz1, ht1, hW1⟩ := hcut
    have H1 := Lib.hid (And.intro hb1 (And.intro hg1 (And.intro hl1 (And.intro hz1 (And.intro ht1 hW1)))))
    clear c0 c1 c2 c3 c4 c5 c6 f0 f1 f2 f3 f4 f5 f6 hct hft u1 u2 u4 u5 u6 u7 u9 hsl1 hsl2 hsl3 hcp
    obtain ⟨c0, c1, c2, c3, c4, c5, c6⟩ := sev hb1
    obtain ⟨f0, f1, f2, f3, f4, f5, f6⟩ := frz hb1
    obtain ⟨t', hct, hft, htb', hte'⟩ := hg1.at64 (i := 0) (by rw [hl1]; have := HN.out; have := HB.out.2.2.2.1; omega) hz1
    obtain rfl : t' = t := hte'.out.symm.trans ht1
    have v1 : IntKind.u32.wrap (s : Int) = s := u32w s (by have := HN.out; omega)
    have v2 : (s : Int) < 64 := by have := HN.out; omega
    have o1 : bits .or .u64 0 0 = 0 := by decide
    have o2 : bits .or .u64 0 1 = 1 := by decide
    have o3 : bits .or .u64 1 0 = 1 := by decide
    have o4 : bits .or .u64 1 1 = 1 := by decide
    obtain ⟨l, hl⟩ : ∃ l, 2 ^ s = l := ⟨_, rfl⟩
    obtain ⟨q, hq⟩ : ∃ q, hv / 2 = q := ⟨_, rfl⟩
    have hl0 : 0 < l := by rw [← hl]; exact Nat.pow_pos (by decide)
    have hl64 : l < 18446744073709551616 := by
      rw [← hl]; exact Nat.lt_of_le_of_lt (Nat.pow_le_pow_right (by decide) (show s ≤ 63 by have := HN.out; omega)) (by decide)
    have v3 : IntKind.u64.wrap ((2 : Int) ^ s) = (l : Int) := by
      have e : ((2 : Int) ^ s) = ((2 ^ s : Nat) : Int) := by rw [Int.natCast_pow]; rfl
      rw [e, hl]; exact u64w l hl64
    have v4 : IntKind.u64.wrap ((l : Int) - 1) = ((l - 1 : Nat) : Int) := by
      rw [show (l : Int) - 1 = ((l - 1 : Nat) : Int) from by omega]; exact u64w _ (by omega)
    have hsp : 64 - p = s := HN.out.2.2.2.2.2
    have hT := HT.out.1
    rw [hsp, hl, hq] at hT
    have v5 : bits .andNot .u64 (t' : Int) ((l - 1 : Nat) : Int) = ((q * l : Nat) : Int) := by
      have := andNot_low (t := t') (j := s) HT.out.2 (by omega)
      rw [hl, hT.1] at this
      exact this
    have hq2 : q < 2 ^ p := by have := hT.2.2.1; rw [Nat.pow_succ] at this; omega
    have HQ : Hid (t' / l = q ∧ hv / 2 = q ∧ q < 2 ^ p ∧ 2 ^ s = l ∧ 64 - p = s ∧ 0 < l ∧ l < 18446744073709551616) := ⟨hT.1, hq, hq2, hl, hsp, hl0, hl64⟩
    obtain ⟨ql, hql⟩ : ∃ z, q * l = z := ⟨_, rfl⟩
    rw [hql] at v5
    have HQL := Lib.hid hql
    have HQLB : Hid (ql < B64) := by
      have h1 := Nat.div_mul_le_self t' l
      rw [HQ.out.1, hql] at h1
      have := HT.out.2
      simp only [Hid, B64]; omega
    have HZW : Hid (∀ x, (Z1.set 0 x).getD 0 0 = x) := fun x => by
      rw [List.getD_eq_getElem?_getD, List.getElem?_set_self (by rw [hl1]; have := HN.out; have := HB.out.2.2.2.1; omega)]; rfl
    clear hb1 hg1 hl1 hz1 hW1 htb' hte' ht1 hl hq hl0 hl64 hsp hT hq2 hql
    go_wp2
    go_end0
    obtain ⟨k1, k2, k3, k4, k5, k6⟩ := H1.out
    have hq0 := HQ.out
    refine ⟨rfl, RCut.intro (mo := false) (acc := 0) (W := ql) (X := ex) (Z' := Z1.set 0 ql) (by rw [moreH0, HRB.out]; rfl) (by unfold accM; rw [if_pos ⟨HRB.out, rfl⟩]) (k1.set_far hbg 0 _) (k2.set64 0 ql _ rfl) (HZW.out ql) (by rw [List.length_set, k3]) (mem_set k4 HQLB.out) (.inr ⟨by rw [hq0.2.1]; exact hq0.2.2.1, rfl, by rw [hq0.2.1, hq0.2.2.2.2.1, hq0.2.2.2.1]; exact HQL.out.symm⟩) (k6.setCell (p := ⟨g, 0, none⟩) (Nat.min_le_right _ _) _)⟩
end Go.Proofs.YtikdhkmcdmnadaaGreatFmt
