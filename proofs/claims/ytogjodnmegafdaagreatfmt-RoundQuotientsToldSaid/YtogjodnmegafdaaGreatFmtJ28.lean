/- Walks and plain laws of this seat's functions, part 28: G16 G21 G17a. -/
import Derived.Test.YtogjodnmegafdaaGreatFmtJ17
import Derived.Test.YtogjodnmegafdaaGreatFmtJ22
import Derived.Test.YtogjodnmegafdaaGreatFmtJ25
import Derived.Test.YtogjodnmegafdaaGreatFmtJ26
import Derived.Test.YtogjodnmegafdaaGreatFmtJ27
set_option linter.unusedVariables false
set_option linter.unusedSimpArgs false
namespace Go.Proofs.YtogjodnmegafdaaGreatFmt
open Go.RowKit
attribute [local go_sem ↓] Go.wp_at_zero Go.wp_at_succ

/-! ### sums of two that are not nought -/
theorem sumM_mag {m1 m2 K : Nat} {a b : Int} (ha : 0 ≤ a + K) (hb : 0 ≤ b + K) : sumM m1 m2 a b * 2 ^ (min a b + K).toNat = m1 * 2 ^ (a + K).toNat + m2 * 2 ^ (b + K).toNat := by
  unfold sumM
  by_cases h1 : a < b
  · rw [if_pos h1, Int.min_eq_left (Int.le_of_lt h1)]; exact add_mag ha (Int.le_of_lt h1)
  · by_cases h2 : b < a
    · rw [if_neg h1, if_pos h2, Int.min_eq_right (Int.le_of_lt h2)]
      have := add_mag (m1 := m2) (m2 := m1) hb (Int.le_of_lt h2)
      rw [Nat.add_comm m2, Nat.add_comm (m2 * _)] at this
      exact this
    · obtain rfl : a = b := by omega
      rw [if_neg h1, if_neg h1, Int.min_self, Nat.add_mul]
theorem le_mag {m1 m2 K : Nat} {a b : Int} (ha : 0 ≤ a + K) (h : a ≤ b) (hle : m2 * 2 ^ (b + K).toNat ≤ m1 * 2 ^ (a + K).toNat) : m2 * 2 ^ (b - a).toNat ≤ m1 := by
  have x : (b + K).toNat = (b - a).toNat + (a + K).toNat := by omega
  rw [x, Nat.pow_add, ← Nat.mul_assoc] at hle
  exact Nat.le_of_mul_le_mul_right hle (Nat.pow_pos (by decide))
theorem le_mag' {m1 m2 K : Nat} {a b : Int} (hb : 0 ≤ b + K) (h : b ≤ a) (hle : m2 * 2 ^ (b + K).toNat ≤ m1 * 2 ^ (a + K).toNat) : m2 ≤ m1 * 2 ^ (a - b).toNat := by
  have x : (a + K).toNat = (a - b).toNat + (b + K).toNat := by omega
  rw [x, Nat.pow_add, ← Nat.mul_assoc] at hle
  exact Nat.le_of_mul_le_mul_right hle (Nat.pow_pos (by decide))
theorem difM_mag {m1 m2 K : Nat} {a b : Int} (ha : 0 ≤ a + K) (hb : 0 ≤ b + K) : difM m1 m2 a b * 2 ^ (min a b + K).toNat = m1 * 2 ^ (a + K).toNat - m2 * 2 ^ (b + K).toNat := by
  unfold difM
  by_cases h1 : a < b
  · rw [if_pos h1, Int.min_eq_left (Int.le_of_lt h1)]; exact sub_mag ha (Int.le_of_lt h1)
  · by_cases h2 : b < a
    · rw [if_neg h1, if_pos h2, Int.min_eq_right (Int.le_of_lt h2)]
      exact sub_mag' hb (Int.le_of_lt h2)
    · obtain rfl : a = b := by omega
      rw [if_neg h1, if_neg h1, Int.min_self, Nat.sub_mul]
theorem difM_le {m1 m2 : Nat} {a b : Int} : difM m1 m2 a b ≤ sumM m1 m2 a b := by
  unfold difM sumM
  split
  · omega
  · split <;> omega
theorem bl_mono {x y : Nat} (h : x ≤ y) : bl x ≤ bl y := bl_le_of_lt (Nat.lt_of_le_of_lt h (bl_lt y))
/-- the value of what uadd and usub leave -/
theorem FVal.fin {w' : World} {K bz S s n B : Nat} {neg : Bool} {v : Value} {E : Int} (hS0 : S ≠ 0) (h1 : bl S + s = 64 * n) (h0 : 0 < n) (h35 : n ≤ 35) (hs : s < 64) (hb : Blk w' bz 65 (fC 2300 0 1 neg v (E + (n : Int) * 64 - s))) (hO : OwnN w' B (S * 2 ^ s) v) (hE : 0 ≤ E + K) (hEb : -15000 ≤ E ∧ E ≤ 10000) :
    FVal w' (K + 64) 35 bz (sg neg (S * 2 ^ (E + K).toNat) * ((2 ^ 64 : Nat) : Int)) := by
  refine ⟨0, 1, neg, v, _, hb, .inr ⟨rfl, B, _, n, hO, by rw [bl_mul_pow hS0, h1], h0, h35, by omega, ?_, by omega⟩⟩
  rw [sg_pow]
  refine congrArg (sg neg) ?_
  have := mag_norm (S := S) (s := s) (K := K) hE (by omega)
  rw [← this]
  congr 3
  omega
end Go.Proofs.YtogjodnmegafdaaGreatFmt

namespace Go.Proofs.YtogjodnmegafdaaGreatFmt
open Go.RowKit
attribute [local go_sem ↓] Go.wp_at_zero Go.wp_at_succ

/-! ### big.Float.Add of two that are not nought -/
theorem uadd_fv (bz bx bY m1 m2 n1 n2 B1 B2 K : Nat) (ax ay ex ey : Int) (neg nx ny : Bool) (vx vy : Value) (w : World) (hz : Blk w bz 65 (fC 2300 0 0 neg (.slice none 0 0) 0)) (hx : Blk w bx 65 (fC 2300 ax 1 nx vx ex)) (hy : Blk w bY 65 (fC 2300 ay 1 ny vy ey))
    (hnx : bx ≠ bz) (hny : bY ≠ bz) (ox : OwnN w B1 m1 vx) (oy : OwnN w B2 m2 vy) (l1 : bl m1 = 64 * n1) (l2 : bl m2 = 64 * n2) (p1 : 0 < n1) (p2 : 0 < n2) (q1 : n1 ≤ 35) (q2 : n2 ≤ 35) (he1 : -9000 ≤ ex ∧ ex ≤ 9000) (he2 : -9000 ≤ ey ∧ ey ≤ 9000)
    (z1 : 0 ≤ ex - ((64 * n1 : Nat) : Int) + K) (z2 : 0 ≤ ey - ((64 * n2 : Nat) : Int) + K) (hS : bl (sumM m1 m2 (ex - ((64 * n1 : Nat) : Int)) (ey - ((64 * n2 : Nat) : Int))) ≤ 2240) :
    Calls Tryz.prog 97 #[.pointer (some ⟨bz, 0, none⟩), .pointer (some ⟨bx, 0, none⟩), .pointer (some ⟨bY, 0, none⟩)] w fun e w' => e = .returned (.tuple #[]) ∧
      FVal w' (K + 64) 35 bz (sg neg (m1 * 2 ^ (ex - ((64 * n1 : Nat) : Int) + K).toNat + m2 * 2 ^ (ey - ((64 * n2 : Nat) : Int) + K).toNat) * ((2 ^ 64 : Nat) : Int)) ∧ Below bz w w' := by
  have zz1 : m1 ≠ 0 := by intro h; subst h; rw [bl_zero] at l1; omega
  obtain ⟨a, ha⟩ : ∃ a : Int, a = ex - ((64 * n1 : Nat) : Int) := ⟨_, rfl⟩
  obtain ⟨b, hb⟩ : ∃ a : Int, a = ey - ((64 * n2 : Nat) : Int) := ⟨_, rfl⟩
  rw [← ha, ← hb] at hS
  rw [← ha] at z1
  rw [← hb] at z2
  rw [← ha, ← hb, ← sumM_mag z1 z2]
  have fin : ∀ e w', (e = Ending.returned (.tuple #[]) ∧ ∃ (v : Value) (s n : Nat) (B : Nat), bl (sumM m1 m2 a b) + s = 64 * n ∧ 0 < n ∧ n ≤ 35 ∧ s < 64 ∧ Blk w' bz 65 (fC 2300 0 1 neg v (min a b + (n : Int) * 64 - s)) ∧ OwnN w' B (sumM m1 m2 a b * 2 ^ s) v ∧ Below bz w w') →
      (e = Ending.returned (.tuple #[]) ∧ FVal w' (K + 64) 35 bz (sg neg (sumM m1 m2 a b * 2 ^ (min a b + K).toNat) * ((2 ^ 64 : Nat) : Int)) ∧ Below bz w w') := by
    rintro e w' ⟨rfl, v, s, n, B, k1, k2, k3, k4, k5, k6, k7⟩
    exact ⟨rfl, FVal.fin (sumM_ne zz1) k1 k2 k3 k4 k5 k6 (by omega) (by omega), k7⟩
  rcases Int.lt_trichotomy a b with h | h | h
  · exact (uadd_lt bz bx bY m1 m2 n1 n2 B1 B2 ax ay ex ey a b _ neg nx ny vx vy w hz hx hy hnx hny ox oy l1 l2 p1 p2 q1 q2 he1 he2 ha hb rfl hS h).mono fin
  · exact (uadd_eq bz bx bY m1 m2 n1 n2 B1 B2 ax ay ex ey a b _ neg nx ny vx vy w hz hx hy hnx hny ox oy l1 l2 p1 p2 q1 q2 he1 he2 ha hb rfl hS h).mono fin
  · exact (uadd_gt bz bx bY m1 m2 n1 n2 B1 B2 ax ay ex ey a b _ neg nx ny vx vy w hz hx hy hnx hny ox oy l1 l2 p1 p2 q1 q2 he1 he2 ha hb rfl hS h).mono fin
theorem usub_fv (bz bx bY m1 m2 n1 n2 B1 B2 K : Nat) (ax ay ex ey : Int) (neg nx ny : Bool) (vx vy : Value) (w : World) (hz : Blk w bz 65 (fC 2300 0 0 neg (.slice none 0 0) 0)) (hx : Blk w bx 65 (fC 2300 ax 1 nx vx ex)) (hy : Blk w bY 65 (fC 2300 ay 1 ny vy ey))
    (hnx : bx ≠ bz) (hny : bY ≠ bz) (ox : OwnN w B1 m1 vx) (oy : OwnN w B2 m2 vy) (l1 : bl m1 = 64 * n1) (l2 : bl m2 = 64 * n2) (p1 : 0 < n1) (p2 : 0 < n2) (q1 : n1 ≤ 35) (q2 : n2 ≤ 35) (he1 : -9000 ≤ ex ∧ ex ≤ 9000) (he2 : -9000 ≤ ey ∧ ey ≤ 9000)
    (z1 : 0 ≤ ex - ((64 * n1 : Nat) : Int) + K) (z2 : 0 ≤ ey - ((64 * n2 : Nat) : Int) + K) (hS : bl (sumM m1 m2 (ex - ((64 * n1 : Nat) : Int)) (ey - ((64 * n2 : Nat) : Int))) ≤ 2240)
    (hle : m2 * 2 ^ (ey - ((64 * n2 : Nat) : Int) + K).toNat ≤ m1 * 2 ^ (ex - ((64 * n1 : Nat) : Int) + K).toNat) :
    Calls Tryz.prog 98 #[.pointer (some ⟨bz, 0, none⟩), .pointer (some ⟨bx, 0, none⟩), .pointer (some ⟨bY, 0, none⟩)] w fun e w' => e = .returned (.tuple #[]) ∧
      FVal w' (K + 64) 35 bz (sg neg (m1 * 2 ^ (ex - ((64 * n1 : Nat) : Int) + K).toNat - m2 * 2 ^ (ey - ((64 * n2 : Nat) : Int) + K).toNat) * ((2 ^ 64 : Nat) : Int)) ∧ Below bz w w' := by
  obtain ⟨a, ha⟩ : ∃ a : Int, a = ex - ((64 * n1 : Nat) : Int) := ⟨_, rfl⟩
  obtain ⟨b, hb⟩ : ∃ a : Int, a = ey - ((64 * n2 : Nat) : Int) := ⟨_, rfl⟩
  rw [← ha, ← hb] at hS hle
  rw [← ha] at z1
  rw [← hb] at z2
  rw [← ha, ← hb, ← difM_mag z1 z2]
  have hS2 : bl (difM m1 m2 a b) ≤ 2240 := Nat.le_trans (bl_mono difM_le) hS
  have fin : ∀ e w', (e = Ending.returned (.tuple #[]) ∧ ((difM m1 m2 a b = 0 ∧ ∃ v, Blk w' bz 65 (fC 2300 0 0 false v 0)) ∨ (difM m1 m2 a b ≠ 0 ∧ ∃ (v : Value) (s n : Nat) (B : Nat), bl (difM m1 m2 a b) + s = 64 * n ∧ 0 < n ∧ n ≤ 35 ∧ s < 64 ∧ Blk w' bz 65 (fC 2300 0 1 neg v (min a b + (n : Int) * 64 - s)) ∧ OwnN w' B (difM m1 m2 a b * 2 ^ s) v)) ∧ Below bz w w') →
      (e = Ending.returned (.tuple #[]) ∧ FVal w' (K + 64) 35 bz (sg neg (difM m1 m2 a b * 2 ^ (min a b + K).toNat) * ((2 ^ 64 : Nat) : Int)) ∧ Below bz w w') := by
    rintro e w' ⟨rfl, h, hW⟩
    refine ⟨rfl, ?_, hW⟩
    rcases h with ⟨h0, v, hb0⟩ | ⟨h0, v, s, n, B, k1, k2, k3, k4, k5, k6⟩
    · rw [h0, Nat.zero_mul, sg_zero, Int.zero_mul]
      exact ⟨0, 0, false, v, 0, hb0, .inl ⟨rfl, rfl⟩⟩
    · exact FVal.fin h0 k1 k2 k3 k4 k5 k6 (by omega) (by omega)
  rcases Int.lt_trichotomy a b with h | h | h
  · exact (usub_lt bz bx bY m1 m2 n1 n2 B1 B2 ax ay ex ey a b _ neg nx ny vx vy w hz hx hy hnx hny ox oy l1 l2 p1 p2 q1 q2 he1 he2 ha hb rfl hS2 h (le_mag z1 (Int.le_of_lt h) hle)).mono fin
  · exact (usub_eq bz bx bY m1 m2 n1 n2 B1 B2 ax ay ex ey a b _ neg nx ny vx vy w hz hx hy hnx hny ox oy l1 l2 p1 p2 q1 q2 he1 he2 ha hb rfl hS2 h (by subst h; have := le_mag z1 (Int.le_refl _) hle; rwa [Int.sub_self, Int.toNat_zero, Nat.pow_zero, Nat.mul_one] at this)).mono fin
  · exact (usub_gt bz bx bY m1 m2 n1 n2 B1 B2 ax ay ex ey a b _ neg nx ny vx vy w hz hx hy hnx hny ox oy l1 l2 p1 p2 q1 q2 he1 he2 ha hb rfl hS2 h (le_mag' z2 (Int.le_of_lt h) hle)).mono fin
set_option maxHeartbeats 4000000 in
set_option maxRecDepth 100000 in
theorem addf_fin (bz bx bY m1 m2 n1 n2 B1 B2 K : Nat) (ax ay ex ey : Int) (nx ny : Bool) (vx vy : Value) (w : World) (hz : Blk w bz 65 (fC 2300 0 0 false (.slice none 0 0) 0)) (hx : Blk w bx 65 (fC 2300 ax 1 nx vx ex)) (hy : Blk w bY 65 (fC 2300 ay 1 ny vy ey))
    (hnx : bx ≠ bz) (hny : bY ≠ bz) (ox : OwnN w B1 m1 vx) (oy : OwnN w B2 m2 vy) (l1 : bl m1 = 64 * n1) (l2 : bl m2 = 64 * n2) (p1 : 0 < n1) (p2 : 0 < n2) (q1 : n1 ≤ 35) (q2 : n2 ≤ 35) (he1 : -9000 ≤ ex ∧ ex ≤ 9000) (he2 : -9000 ≤ ey ∧ ey ≤ 9000)
    (z1 : 0 ≤ ex - ((64 * n1 : Nat) : Int) + K) (z2 : 0 ≤ ey - ((64 * n2 : Nat) : Int) + K) (hS : bl (sumM m1 m2 (ex - ((64 * n1 : Nat) : Int)) (ey - ((64 * n2 : Nat) : Int))) ≤ 2240) (hS' : bl (sumM m2 m1 (ey - ((64 * n2 : Nat) : Int)) (ex - ((64 * n1 : Nat) : Int))) ≤ 2240) :
    Calls Tryz.prog 71 #[.pointer (some ⟨bz, 0, none⟩), .pointer (some ⟨bx, 0, none⟩), .pointer (some ⟨bY, 0, none⟩)] w fun e w' => e = .returned (.pointer (some ⟨bz, 0, none⟩)) ∧
      FVal w' (K + 64) 35 bz ((sg nx (m1 * 2 ^ (ex - ((64 * n1 : Nat) : Int) + K).toNat) + sg ny (m2 * 2 ^ (ey - ((64 * n2 : Nat) : Int) + K).toNat)) * ((2 ^ 64 : Nat) : Int)) ∧ Below bz w w' := by
  obtain ⟨x0, x1, x2, x3, x4, x5, x6⟩ := sev hx
  obtain ⟨y0, y1, y2, y3, y4, y5, y6⟩ := sev hy
  obtain ⟨c0, c1, c2, c3, c4, c5, c6⟩ := sev hz
  obtain ⟨f0, f1, f2, f3, f4, f5, f6⟩ := frz hz
  have hxy : XY bx bY (fC 2300 ax 1 nx vx ex) (fC 2300 ay 1 ny vy ey) B1 B2 m1 m2 vx vy (w.setCell ⟨bz, 4, none⟩ (.bool nx)) := XY.set ⟨hx, hy, ox, oy⟩ hz hnx hny 4 _
  have hz1 := hz.set 4 (.bool nx)
  have hW1 := (Below.refl bz w).setCell (p := ⟨bz, 4, none⟩) (Nat.le_refl _) (.bool nx)
  obtain ⟨M1, hM1⟩ : ∃ M, m1 * 2 ^ (ex - ((64 * n1 : Nat) : Int) + K).toNat = M := ⟨_, rfl⟩
  obtain ⟨M2, hM2⟩ : ∃ M, m2 * 2 ^ (ey - ((64 * n2 : Nat) : Int) + K).toNat = M := ⟨_, rfl⟩
  rw [hM1, hM2]
  have HU := Lib.hid (uadd_fv bz bx bY m1 m2 n1 n2 B1 B2 K ax ay ex ey nx nx ny vx vy _ hz1 hxy.x hxy.y hnx hny hxy.ox hxy.oy l1 l2 p1 p2 q1 q2 he1 he2 z1 z2 hS)
  have HC := Lib.hid (ucmp_calls bx bY K m1 m2 n1 n2 B1 B2 vx vy ax ay ex ey 1 1 nx ny _ hxy.x hxy.y hxy.ox hxy.oy l1 p1 z1 l2 p2 z2)
  have HS1 := Lib.hid (fun (W : World) (hW : Below (w.setCell ⟨bz, 4, none⟩ (.bool nx)).heap.size (w.setCell ⟨bz, 4, none⟩ (.bool nx)) W) (hle : M2 ≤ M1) => usub_fv bz bx bY m1 m2 n1 n2 B1 B2 K ax ay ex ey nx nx ny vx vy W (hz1.below' hW) (hxy.keep hW).x (hxy.keep hW).y hnx hny (hxy.keep hW).ox (hxy.keep hW).oy l1 l2 p1 p2 q1 q2 he1 he2 z1 z2 hS (by rw [hM1, hM2]; exact hle))
  have HS2 := Lib.hid (fun (W : World) (hW : Below (w.setCell ⟨bz, 4, none⟩ (.bool nx)).heap.size (w.setCell ⟨bz, 4, none⟩ (.bool nx)) W) (hle : M1 ≤ M2) => usub_fv bz bY bx m2 m1 n2 n1 B2 B1 K ay ax ey ex (!nx) ny nx vy vx (W.setCell ⟨bz, 4, none⟩ (.bool (!nx))) ((hz1.below' hW).set 4 _) (((hxy.keep hW).set (hz1.below' hW) hnx hny 4 _)).y (((hxy.keep hW).set (hz1.below' hW) hnx hny 4 _)).x hny hnx (((hxy.keep hW).set (hz1.below' hW) hnx hny 4 _)).oy (((hxy.keep hW).set (hz1.below' hW) hnx hny 4 _)).ox l2 l1 p2 p1 q2 q1 he2 he1 z2 z1 hS' (by rw [hM1, hM2]; exact hle))
  have HFZ := Lib.hid (fun (W : World) (hW : Below (w.setCell ⟨bz, 4, none⟩ (.bool nx)).heap.size (w.setCell ⟨bz, 4, none⟩ (.bool nx)) W) => And.intro (hz1.below' hW) (hW1.trans (hW.mono (Nat.le_of_lt hz1.lt))))
  rw [hM1, hM2] at HU HC HS1 HS2
  have HW1 := Lib.hid hW1
  clear hz hx hy ox oy l1 l2 p1 p2 q1 q2 he1 he2 z1 z2 hS hS' hxy hz1 hW1 hM1 hM2
  by_cases hn : nx = ny
  · subst hn
    have hsum : sg nx M1 + sg nx M2 = sg nx (M1 + M2) := by unfold sg; cases nx <;> simp <;> omega
    rw [hsum]
    clear HC HS1 HS2 HFZ hsum
    cases nx
    all_goals (
      go_enter Tryz.func71, Tryz.ntmps71
      go_wp2_with fail
      refine HU.out.mono ?_
      rintro e w2 ⟨rfl, hf, hW2⟩
      have HF := Lib.hid hf
      have HW2 := Lib.hid (HW1.out.trans hW2)
      obtain ⟨acc, form, ng, v, e2, hb, hv⟩ := hf
      obtain ⟨g0, g1, g2, g3, g4, g5, g6⟩ := sev hb
      have hform : (form : Int) = 0 ∨ (form : Int) = 1 := by rcases hv with ⟨rfl, _⟩ | ⟨rfl, _⟩; exact .inl rfl; exact .inr rfl
      obtain ⟨fm, hfm⟩ : ∃ fm : Int, (form : Int) = fm := ⟨_, rfl⟩
      rw [hfm] at hform g3
      clear hb hv hW2 hfm
      rcases hform with rfl | rfl
      all_goals (
        go_wp2
        go_ret
        exact ⟨rfl, HF.out, HW2.out⟩))
  · obtain rfl : ny = !nx := by cases nx <;> cases ny <;> simp_all
    clear hn HU
    by_cases hlt : M2 < M1
    · rw [sg_gt hlt] at HC
      have hle : M2 ≤ M1 := Nat.le_of_lt hlt
      have hsum : sg nx M1 + sg (!nx) M2 = sg nx (M1 - M2) := by unfold sg; cases nx <;> simp <;> omega
      rw [hsum]
      have HLE := Lib.hid hle
      clear hlt hle hsum HS2
      cases nx
      all_goals (
        go_enter Tryz.func71, Tryz.ntmps71
        go_wp2_with fail
        refine HC.out.mono ?_
        rintro e w' ⟨rfl, q, rfl⟩
        go_wp2_with fail
        refine (HS1.out _ (below_drewN (Below.refl _ _) q) HLE.out).mono ?_
        rintro e w2 ⟨rfl, hf, hW2⟩
        have HF := Lib.hid hf
        have HW2 := Lib.hid ((HFZ.out _ (below_drewN (Below.refl _ _) q)).2.trans hW2)
        obtain ⟨acc, form, ng, v, e2, hb, hv⟩ := hf
        obtain ⟨g0, g1, g2, g3, g4, g5, g6⟩ := sev hb
        have hform : (form : Int) = 0 ∨ (form : Int) = 1 := by rcases hv with ⟨rfl, _⟩ | ⟨rfl, _⟩; exact .inl rfl; exact .inr rfl
        obtain ⟨fm, hfm⟩ : ∃ fm : Int, (form : Int) = fm := ⟨_, rfl⟩
        rw [hfm] at hform g3
        clear hb hv hW2 hfm
        rcases hform with rfl | rfl
        all_goals (
          go_wp2
          go_ret
          exact ⟨rfl, HF.out, HW2.out⟩))
    · obtain ⟨cc, hcc⟩ : ∃ cc, Int.sign ((M1 : Int) - (M2 : Int)) = cc := ⟨_, rfl⟩
      have hc0 : ¬ 0 < cc := by
        rw [← hcc]
        rcases Nat.lt_or_eq_of_le (Nat.le_of_not_lt hlt) with h | h
        · rw [sg_lt h]; decide
        · rw [sg_eq h]; decide
      rw [hcc] at HC
      have hsum : sg nx M1 + sg (!nx) M2 = sg (!nx) (M2 - M1) := by unfold sg; cases nx <;> simp <;> omega
      rw [hsum]
      have HLE := Lib.hid (Nat.le_of_not_lt hlt)
      clear hlt hsum HS1 hcc
      cases nx
      all_goals (
        go_enter Tryz.func71, Tryz.ntmps71
        go_wp2_with fail
        refine HC.out.mono ?_
        rintro e w' ⟨rfl, q, rfl⟩
        go_wp2_with fail
        refine (HS2.out _ (below_drewN (Below.refl _ _) q) HLE.out).mono ?_
        rintro e w2 ⟨rfl, hf, hW2⟩
        have HF := Lib.hid hf
        have HW2 := Lib.hid (((HFZ.out _ (below_drewN (Below.refl _ _) q)).2.setCell (p := ⟨bz, 4, none⟩) (Nat.le_refl _) _).trans hW2)
        obtain ⟨acc, form, ng, v, e2, hb, hv⟩ := hf
        obtain ⟨g0, g1, g2, g3, g4, g5, g6⟩ := sev hb
        have hform : (form : Int) = 0 ∨ (form : Int) = 1 := by rcases hv with ⟨rfl, _⟩ | ⟨rfl, _⟩; exact .inl rfl; exact .inr rfl
        obtain ⟨fm, hfm⟩ : ∃ fm : Int, (form : Int) = fm := ⟨_, rfl⟩
        rw [hfm] at hform g3
        clear hb hv hW2 hfm
        rcases hform with rfl | rfl
        all_goals (
          go_wp2
          go_ret
          exact ⟨rfl, HF.out, HW2.out⟩))
end Go.Proofs.YtogjodnmegafdaaGreatFmt

namespace Go.Proofs.YtogjodnmegafdaaGreatFmt
open Go.RowKit
attribute [local go_sem ↓] Go.wp_at_zero Go.wp_at_succ

/-! ### round to p bits -/
theorem slice_from32 (T : Nat) (hT : Tryz.prog.underlying T = some (.slice 103)) (W : World) (g n c k : Nat) (i : Int) (hi : i = k) (hk : k < n) (hnc : n ≤ c) :
    (Instr.slice T (.slice (some ⟨g, 0, none⟩) n c) (some (.int .u32 i)) none none).run Tryz.prog W = .ok (.slice (some ⟨g, k, none⟩) (n - k) (c - k)) W := by
  subst hi
  obtain ⟨j, hj, _, hs, _⟩ := word_info
  have h1 : k ≤ n := by omega
  have h2 : c ≠ k := by omega
  simp [Instr.slice, run_underlying hT, Instr.sliceBounds, Instr.sliceBound, asIntOf, h1, h2, sizeOf, typeInfo, hj, hs, Addr.add]
  intro h; exact h.symm
theorem slice_to32 (T : Nat) (hT : Tryz.prog.underlying T = some (.slice 103)) (W : World) (A : Option Addr) (n c j : Nat) (i : Int) (hi : i = j) (hj : j ≤ c) :
    (Instr.slice T (.slice A n c) none (some (.int .u32 i)) none).run Tryz.prog W = .ok (.slice A j c) W := by
  subst hi
  obtain ⟨u, hu, _, hs, _⟩ := word_info
  simp [Instr.slice, run_underlying hT, Instr.sliceBounds, Instr.sliceBound, asIntOf, hj, sizeOf, typeInfo, hu, hs]
  intro _
  cases A with
  | none => rfl
  | some a => simp [Addr.add]
theorem copy_top {w : World} {g : Nat} {Z : List Nat} (hb : Blk w g 103 (i64s Z)) (n k t cx ty : Nat) (h0 : 0 < n) (hn : n ≤ Z.length) (ht : w.cell? ⟨g, k, none⟩ = some (.int .u64 t)) :
    (Builtin.copy_ #[63, 63] ty #[.slice (some ⟨g, 0, none⟩) n Z.length, .slice (some ⟨g, k, none⟩) 1 cx]).run Tryz.prog w = .ok (.int .i64 1) (w.setRow g (i64s (t :: Z.drop 1)).toArray) := by
  have hu : Tryz.prog.underlying 63 = some (.slice 103) := by kernel_rfl
  have hsz : (Tryz.prog.info? 103).map (·.size) = some 1 := by kernel_rfl
  have := run_copy_row (P := Tryz.prog) w 63 63 ty 103 g 0 n Z.length ⟨g, k, none⟩ 1 cx (i64s Z).toArray 103 [.int .u64 t] hu hsz hb (Nat.min_eq_left (by omega : 1 ≤ n)).symm (fun j v hj => by
    rcases j with _ | j
    · simp at hj; subst hj; simpa [Addr.add] using ht
    · simp at hj) (by simp [i64s]; omega) (by intro v hv; simp at hv; subst hv; rfl)
  have e : i64s (t :: Z.drop 1) = (i64s Z).toArray.toList.take 0 ++ [.int .u64 t] ++ (i64s Z).toArray.toList.drop (0 + [Value.int .u64 (t : Int)].length) := by
    simp [i64s, List.map_drop]
  rw [e]; exact this
theorem cons_of {Z : List Nat} {t : Nat} (hl : 0 < Z.length) (ht : Z.getD 0 0 = t) : Z = t :: Z.drop 1 := by
  cases Z with
  | nil => simp at hl
  | cons a Z => simp at ht; subst ht; rfl
set_option maxRecDepth 100000 in
set_option maxHeartbeats 1000000 in
theorem rsh_self1 (g c1 c2 x : Nat) (Z : List Nat) (w : World) (hg : Blk w g 103 (i64s Z)) (hz : ∀ d ∈ Z, d < B64) (hl : 0 < Z.length) (hx : Z.getD 0 0 = x) :
    Calls Tryz.prog 61 #[.slice (some ⟨g, 0, none⟩) 1 c1, .slice (some ⟨g, 0, none⟩) 1 c2, .int .u64 1] w fun e w' => ∃ v : Int, e = .returned (.int .u64 v) ∧ Blk w' g 103 (i64s (Z.set 0 (x / 2))) ∧ Only g w w' := by
  obtain ⟨x', hct, hft, hxb, hxe⟩ := hg.at64 (i := 0) hl hz
  obtain rfl : x' = x := hxe.out.symm.trans hx
  have HG := Lib.hid hg
  have h1 : bits .and .u64 1 63 = 1 := by decide
  have h2 : bits .and .u64 63 63 = 63 := by decide
  obtain ⟨u, hu⟩ : ∃ u, x' / 2 = u := ⟨_, rfl⟩
  have h3 : (x' : Int) / 2 = (u : Int) := by omega
  rw [hu]
  clear hg hz hl hx hxe hu
  go_enter Tryz.func61, Tryz.ntmps61
  go_wp2
  go_loop [8] (fun i => i = .int .i64 1) (fun _ => 0)
  case atStart => rfl
  case round =>
    subst hrel
    go_wp2
    go_ret
    exact ⟨⟨_, rfl⟩, HG.out.set64 0 _ _ rfl, (Only.refl g w).setCell rfl _⟩
theorem addvw1 (g c1 c2 t y : Nat) (Z : List Nat) (w : World) (hg : Blk w g 103 (i64s Z)) (hz : ∀ d ∈ Z, d < B64) (hl : 0 < Z.length) (hx : Z.getD 0 0 = t) (hy : y < B64) (h1 : 1 ≤ c1) (h2 : 1 ≤ c2) :
    Calls Tryz.prog 87 #[.slice (some ⟨g, 0, none⟩) 1 c1, .slice (some ⟨g, 0, none⟩) 1 c2, .int .u64 y] w fun e w' => e = .returned (.int .u64 (((t + y) / 18446744073709551616 : Nat) : Int)) ∧ Blk w' g 103 (i64s (Z.set 0 ((t + y) % 18446744073709551616))) ∧ Only g w w' := by
  have hZ := cons_of hl hx
  have htb : t < B64 := by rw [← hx]; exact getD_mem_lt hz hl
  have hg' : Blk w g 103 (i64s ([] ++ ([t] ++ Z.drop 1))) := by
    have e : [] ++ ([t] ++ Z.drop 1) = Z := by rw [List.nil_append, List.singleton_append]; exact hZ.symm
    rw [e]; exact hg
  have hzb : ∀ d ∈ ([] : List Nat) ++ ([t] ++ Z.drop 1), d < B64 := by
    have e : [] ++ ([t] ++ Z.drop 1) = Z := by rw [List.nil_append, List.singleton_append]; exact hZ.symm
    rw [e]; exact hz
  refine (addVW_calls ⟨g, 0, none⟩ 1 y c1 c2 g 0 [t] [] [t] (Z.drop 1) w rfl hg' rfl rfl hzb (CellsAt.blk hg' rfl rfl) (.inl ⟨rfl, rfl⟩) (by simpa using htb) (by decide) hy (by decide) (by decide) h1 h2 ⟨_, _, hg'⟩).mono ?_
  rintro e w' ⟨v, rs, rfl, hb, hd, ho⟩
  obtain ⟨d1, d2, d3, d4⟩ := hd
  obtain ⟨r, rfl⟩ : ∃ r, rs = [r] := by
    cases rs with
    | nil => simp at d1
    | cons a rs => cases rs with
      | nil => exact ⟨a, rfl⟩
      | cons b rs => simp at d1
  have hr := d2 r (by simp)
  simp only [val, Nat.mul_zero, Nat.add_zero, List.length_singleton, Nat.pow_one] at d4
  simp only [B64] at *
  have e1 : (t + y) / 18446744073709551616 = v := by omega
  have e2 : (t + y) % 18446744073709551616 = r := by omega
  rw [e1, e2]
  refine ⟨rfl, ?_, ho⟩
  have e3 : Z.set 0 r = [] ++ ([r] ++ Z.drop 1) := by rw [hZ]; rfl
  rw [e3]; exact hb
theorem and_bit {t s : Nat} (ht : t < 18446744073709551616) (hs : s < 64) : bits .and .u64 (t : Int) ((2 ^ s : Nat) : Int) = ((t / 2 ^ s % 2 * 2 ^ s : Nat) : Int) := by
  have h2 : 2 ^ s < 18446744073709551616 := Nat.lt_of_le_of_lt (Nat.pow_le_pow_right (by decide) (show s ≤ 63 by omega)) (by decide)
  rw [u64_and_nat _ _ ht h2]
  refine congrArg (fun x : Nat => (x : Int)) ?_
  have e : t / 2 ^ s % 2 * 2 ^ s = ((t >>> s) % 2 ^ 1) <<< s := by rw [Nat.shiftLeft_eq, Nat.shiftRight_eq_div_pow, Nat.pow_one]
  rw [e]
  apply Nat.eq_of_testBit_eq
  intro i
  rw [Nat.testBit_and, Nat.testBit_two_pow, Nat.testBit_shiftLeft, Nat.testBit_mod_two_pow, Nat.testBit_shiftRight]
  by_cases h : s = i
  · subst h; simp
  · by_cases h3 : s ≤ i
    · have : ¬ i - s < 1 := by omega
      simp [h, this]
    · simp [h, h3]
theorem carry_word {t l u : Nat} (s : Nat) (hs : s ≤ 63) (hl : 2 ^ s = l) (h1 : t < 18446744073709551616) (h2 : 18446744073709551616 ≤ t + l) (hu : u = (t + l) % 18446744073709551616 / 2) : u < 9223372036854775808 ∧ (u + 9223372036854775808) / l * l = 9223372036854775808 := by
  have hl0 : 0 < l := by rw [← hl]; exact Nat.pow_pos (by decide)
  have e : 9223372036854775808 = l * 2 ^ (63 - s) := by rw [← hl, ← Nat.pow_add, show s + (63 - s) = 63 from by omega]
  have hul : u < l := by omega
  refine ⟨by omega, ?_⟩
  rw [e, Nat.add_mul_div_left _ _ hl0, Nat.div_eq_of_lt hul, Nat.zero_add, Nat.mul_comm]
abbrev fP (p : Nat) (acc : Int) (neg : Bool) (v : Value) (ex : Int) : List Value := [.int .u32 p, .int .u8 0, .int .i8 acc, .int .u8 1, .bool neg, v, .int .i32 ex]
theorem u32wi (x : Int) (h : 0 ≤ x ∧ x < 4294967296) : IntKind.u32.wrap x = x := by simp [IntKind.wrap, IntKind.bits, IntKind.signed]; omega
def accM (neg rest : Bool) (hv : Nat) : Int := if hv % 2 = 0 ∧ rest = false then 0 else if moreH 0 false rest hv != neg then 1 else -1
/-- a Float cut to p bits: its word W, its exponent X -/
def RCut (b g p hv : Nat) (neg rest : Bool) (ex : Int) (N : Nat) (w w' : World) : Prop :=
  ∃ (W : Nat) (X : Int) (Z' : List Nat),
      Blk w' b 65 (fP p (accM neg rest hv) neg (.slice (some ⟨g, 0, none⟩) 1 N) X) ∧ Blk w' g 103 (i64s Z') ∧ Z'.getD 0 0 = W ∧ Z'.length = N ∧ (∀ d ∈ Z', d < B64) ∧
      ((hv / 2 + (moreH 0 false rest hv).toNat = 2 ^ p ∧ X = ex + 1 ∧ W = 9223372036854775808) ∨ (hv / 2 + (moreH 0 false rest hv).toNat < 2 ^ p ∧ X = ex ∧ W = (hv / 2 + (moreH 0 false rest hv).toNat) * 2 ^ (64 - p))) ∧ Below (min b g) w w'
theorem RCut.intro {b g p hv N W : Nat} {neg rest mo : Bool} {ex X acc : Int} {w w' : World} {Z' : List Nat} (hmo : moreH 0 false rest hv = mo) (hacc : accM neg rest hv = acc)
    (hb : Blk w' b 65 (fP p acc neg (.slice (some ⟨g, 0, none⟩) 1 N) X)) (hg : Blk w' g 103 (i64s Z')) (hW : Z'.getD 0 0 = W) (hl : Z'.length = N) (hz : ∀ d ∈ Z', d < B64)
    (hc : (hv / 2 + mo.toNat = 2 ^ p ∧ X = ex + 1 ∧ W = 9223372036854775808) ∨ (hv / 2 + mo.toNat < 2 ^ p ∧ X = ex ∧ W = (hv / 2 + mo.toNat) * 2 ^ (64 - p))) (hB : Below (min b g) w w') : RCut b g p hv neg rest ex N w w' := by
  subst hmo hacc
  exact ⟨W, X, Z', hb, hg, hW, hl, hz, hc, hB⟩
theorem moreH0 (rest : Bool) (h : Nat) : moreH 0 false rest h = (decide (h % 2 = 1) && (rest || decide (h / 2 % 2 = 1))) := by unfold moreH; simp
end Go.Proofs.YtogjodnmegafdaaGreatFmt
