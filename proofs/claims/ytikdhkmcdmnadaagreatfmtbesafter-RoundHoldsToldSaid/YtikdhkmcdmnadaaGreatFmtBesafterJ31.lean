/- Walks and plain laws of this seat's functions, part 31: G16 G21 G22 G23. -/
import Derived.Test.YtikdhkmcdmnadaaGreatFmtBesafterJ27
import Derived.Test.YtikdhkmcdmnadaaGreatFmtBesafterJ29
import Derived.Test.YtikdhkmcdmnadaaGreatFmtBesafterJ30
set_option linter.unusedVariables false
set_option linter.unusedSimpArgs false
namespace Go.Proofs.YtikdhkmcdmnadaaGreatFmtBesafter
open Go.RowKit
attribute [local go_sem ↓] Go.wp_at_zero Go.wp_at_succ

/-! ### sums of two that are not nought -/
theorem sumM_mag {m1 m2 K : Nat} {a b : Int} (ha : 0 ≤ a + K) (hb : 0 ≤ b + K) : sumM m1 m2 a b * 2 ^ (min a b + K).toNat = m1 * 2 ^ (a + K).toNat + m2 * 2 ^ (b + K).toNat := by
  unfold sumM
  by_cases h1 : a < b
  · rw [if_pos h1, Int.min_eq_left (Int.le_of_lt h1)]; exact add_mag ha (Int.le_of_lt h1)
  · by_cases h2 : b < a
    · rw [if_neg h1, if_pos h2, Int.min_eq_right (Int.le_of_lt h2)]
      have := add_mag (m1 := m2) (m2 := m1) hb (Int.le_of_lt h2)
      rw [Nat.add_comm m2, Nat.add_comm (m2 * _)] at this
      exact this
    · obtain rfl : a = b := by omega
      rw [if_neg h1, if_neg h1, Int.min_self, Nat.add_mul]
theorem le_mag {m1 m2 K : Nat} {a b : Int} (ha : 0 ≤ a + K) (h : a ≤ b) (hle : m2 * 2 ^ (b + K).toNat ≤ m1 * 2 ^ (a + K).toNat) : m2 * 2 ^ (b - a).toNat ≤ m1 := by
  have x : (b + K).toNat = (b - a).toNat + (a + K).toNat := by omega
  rw [x, Nat.pow_add, ← Nat.mul_assoc] at hle
  exact Nat.le_of_mul_le_mul_right hle (Nat.pow_pos (by decide))
theorem le_mag' {m1 m2 K : Nat} {a b : Int} (hb : 0 ≤ b + K) (h : b ≤ a) (hle : m2 * 2 ^ (b + K).toNat ≤ m1 * 2 ^ (a + K).toNat) : m2 ≤ m1 * 2 ^ (a - b).toNat := by
  have x : (a + K).toNat = (a - b).toNat + (b + K).toNat := by omega
  rw [x, Nat.pow_add, ← Nat.mul_assoc] at hle
  exact Nat.le_of_mul_le_mul_right hle (Nat.pow_pos (by decide))
theorem difM_mag {m1 m2 K : Nat} {a b : Int} (ha : 0 ≤ a + K) (hb : 0 ≤ b + K) : difM m1 m2 a b * 2 ^ (min a b + K).toNat = m1 * 2 ^ (a + K).toNat - m2 * 2 ^ (b + K).toNat := by
  unfold difM
  by_cases h1 : a < b
  · rw [if_pos h1, Int.min_eq_left (Int.le_of_lt h1)]; exact sub_mag ha (Int.le_of_lt h1)
  · by_cases h2 : b < a
    · rw [if_neg h1, if_pos h2, Int.min_eq_right (Int.le_of_lt h2)]
      exact sub_mag' hb (Int.le_of_lt h2)
    · obtain rfl : a = b := by omega
      rw [if_neg h1, if_neg h1, Int.min_self, Nat.sub_mul]
theorem difM_le {m1 m2 : Nat} {a b : Int} : difM m1 m2 a b ≤ sumM m1 m2 a b := by
  unfold difM sumM
  split
  · omega
  · split <;> omega
theorem bl_mono {x y : Nat} (h : x ≤ y) : bl x ≤ bl y := bl_le_of_lt (Nat.lt_of_le_of_lt h (bl_lt y))
/-- the value of what uadd and usub leave -/
theorem FVal.fin {w' : World} {K bz S s n B : Nat} {neg : Bool} {v : Value} {E : Int} (hS0 : S ≠ 0) (h1 : bl S + s = 64 * n) (h0 : 0 < n) (h35 : n ≤ 35) (hs : s < 64) (hb : Blk w' bz 65 (fC 2300 0 1 neg v (E + (n : Int) * 64 - s))) (hO : OwnN w' B (S * 2 ^ s) v) (hE : 0 ≤ E + K) (hEb : -15000 ≤ E ∧ E ≤ 10000) :
    FVal w' (K + 64) 35 bz (sg neg (S * 2 ^ (E + K).toNat) * ((2 ^ 64 : Nat) : Int)) := by
  refine ⟨0, 1, neg, v, _, hb, .inr ⟨rfl, B, _, n, hO, by rw [bl_mul_pow hS0, h1], h0, h35, by omega, ?_, by omega⟩⟩
  rw [sg_pow]
  refine congrArg (sg neg) ?_
  have := mag_norm (S := S) (s := s) (K := K) hE (by omega)
  rw [← this]
  congr 3
  omega
end Go.Proofs.YtikdhkmcdmnadaaGreatFmtBesafter

namespace Go.Proofs.YtikdhkmcdmnadaaGreatFmtBesafter
open Go.RowKit
attribute [local go_sem ↓] Go.wp_at_zero Go.wp_at_succ

/-! ### big.Float.Add of two that are not nought -/
theorem uadd_fv (bz bx bY m1 m2 n1 n2 B1 B2 K : Nat) (ax ay ex ey : Int) (neg nx ny : Bool) (vx vy : Value) (w : World) (hz : Blk w bz 65 (fC 2300 0 0 neg (.slice none 0 0) 0)) (hx : Blk w bx 65 (fC 2300 ax 1 nx vx ex)) (hy : Blk w bY 65 (fC 2300 ay 1 ny vy ey))
    (hnx : bx ≠ bz) (hny : bY ≠ bz) (ox : OwnN w B1 m1 vx) (oy : OwnN w B2 m2 vy) (l1 : bl m1 = 64 * n1) (l2 : bl m2 = 64 * n2) (p1 : 0 < n1) (p2 : 0 < n2) (q1 : n1 ≤ 35) (q2 : n2 ≤ 35) (he1 : -9000 ≤ ex ∧ ex ≤ 9000) (he2 : -9000 ≤ ey ∧ ey ≤ 9000)
    (z1 : 0 ≤ ex - ((64 * n1 : Nat) : Int) + K) (z2 : 0 ≤ ey - ((64 * n2 : Nat) : Int) + K) (hS : bl (sumM m1 m2 (ex - ((64 * n1 : Nat) : Int)) (ey - ((64 * n2 : Nat) : Int))) ≤ 2240) :
    Calls Tryz.prog 57 #[.pointer (some ⟨bz, 0, none⟩), .pointer (some ⟨bx, 0, none⟩), .pointer (some ⟨bY, 0, none⟩)] w fun e w' => e = .returned (.tuple #[]) ∧
      FVal w' (K + 64) 35 bz (sg neg (m1 * 2 ^ (ex - ((64 * n1 : Nat) : Int) + K).toNat + m2 * 2 ^ (ey - ((64 * n2 : Nat) : Int) + K).toNat) * ((2 ^ 64 : Nat) : Int)) ∧ Below bz w w' := by
  have zz1 : m1 ≠ 0 := by intro h; subst h; rw [bl_zero] at l1; omega
  obtain ⟨a, ha⟩ : ∃ a : Int, a = ex - ((64 * n1 : Nat) : Int) := ⟨_, rfl⟩
  obtain ⟨b, hb⟩ : ∃ a : Int, a = ey - ((64 * n2 : Nat) : Int) := ⟨_, rfl⟩
  rw [← ha, ← hb] at hS
  rw [← ha] at z1
  rw [← hb] at z2
  rw [← ha, ← hb, ← sumM_mag z1 z2]
  have fin : ∀ e w', (e = Ending.returned (.tuple #[]) ∧ ∃ (v : Value) (s n : Nat) (B : Nat), bl (sumM m1 m2 a b) + s = 64 * n ∧ 0 < n ∧ n ≤ 35 ∧ s < 64 ∧ Blk w' bz 65 (fC 2300 0 1 neg v (min a b + (n : Int) * 64 - s)) ∧ OwnN w' B (sumM m1 m2 a b * 2 ^ s) v ∧ Below bz w w') →
      (e = Ending.returned (.tuple #[]) ∧ FVal w' (K + 64) 35 bz (sg neg (sumM m1 m2 a b * 2 ^ (min a b + K).toNat) * ((2 ^ 64 : Nat) : Int)) ∧ Below bz w w') := by
    rintro e w' ⟨rfl, v, s, n, B, k1, k2, k3, k4, k5, k6, k7⟩
    exact ⟨rfl, FVal.fin (sumM_ne zz1) k1 k2 k3 k4 k5 k6 (by omega) (by omega), k7⟩
  rcases Int.lt_trichotomy a b with h | h | h
  · exact (uadd_lt bz bx bY m1 m2 n1 n2 B1 B2 ax ay ex ey a b _ neg nx ny vx vy w hz hx hy hnx hny ox oy l1 l2 p1 p2 q1 q2 he1 he2 ha hb rfl hS h).mono fin
  · exact (uadd_eq bz bx bY m1 m2 n1 n2 B1 B2 ax ay ex ey a b _ neg nx ny vx vy w hz hx hy hnx hny ox oy l1 l2 p1 p2 q1 q2 he1 he2 ha hb rfl hS h).mono fin
  · exact (uadd_gt bz bx bY m1 m2 n1 n2 B1 B2 ax ay ex ey a b _ neg nx ny vx vy w hz hx hy hnx hny ox oy l1 l2 p1 p2 q1 q2 he1 he2 ha hb rfl hS h).mono fin
theorem usub_fv (bz bx bY m1 m2 n1 n2 B1 B2 K : Nat) (ax ay ex ey : Int) (neg nx ny : Bool) (vx vy : Value) (w : World) (hz : Blk w bz 65 (fC 2300 0 0 neg (.slice none 0 0) 0)) (hx : Blk w bx 65 (fC 2300 ax 1 nx vx ex)) (hy : Blk w bY 65 (fC 2300 ay 1 ny vy ey))
    (hnx : bx ≠ bz) (hny : bY ≠ bz) (ox : OwnN w B1 m1 vx) (oy : OwnN w B2 m2 vy) (l1 : bl m1 = 64 * n1) (l2 : bl m2 = 64 * n2) (p1 : 0 < n1) (p2 : 0 < n2) (q1 : n1 ≤ 35) (q2 : n2 ≤ 35) (he1 : -9000 ≤ ex ∧ ex ≤ 9000) (he2 : -9000 ≤ ey ∧ ey ≤ 9000)
    (z1 : 0 ≤ ex - ((64 * n1 : Nat) : Int) + K) (z2 : 0 ≤ ey - ((64 * n2 : Nat) : Int) + K) (hS : bl (sumM m1 m2 (ex - ((64 * n1 : Nat) : Int)) (ey - ((64 * n2 : Nat) : Int))) ≤ 2240)
    (hle : m2 * 2 ^ (ey - ((64 * n2 : Nat) : Int) + K).toNat ≤ m1 * 2 ^ (ex - ((64 * n1 : Nat) : Int) + K).toNat) :
    Calls Tryz.prog 59 #[.pointer (some ⟨bz, 0, none⟩), .pointer (some ⟨bx, 0, none⟩), .pointer (some ⟨bY, 0, none⟩)] w fun e w' => e = .returned (.tuple #[]) ∧
      FVal w' (K + 64) 35 bz (sg neg (m1 * 2 ^ (ex - ((64 * n1 : Nat) : Int) + K).toNat - m2 * 2 ^ (ey - ((64 * n2 : Nat) : Int) + K).toNat) * ((2 ^ 64 : Nat) : Int)) ∧ Below bz w w' := by
  obtain ⟨a, ha⟩ : ∃ a : Int, a = ex - ((64 * n1 : Nat) : Int) := ⟨_, rfl⟩
  obtain ⟨b, hb⟩ : ∃ a : Int, a = ey - ((64 * n2 : Nat) : Int) := ⟨_, rfl⟩
  rw [← ha, ← hb] at hS hle
  rw [← ha] at z1
  rw [← hb] at z2
  rw [← ha, ← hb, ← difM_mag z1 z2]
  have hS2 : bl (difM m1 m2 a b) ≤ 2240 := Nat.le_trans (bl_mono difM_le) hS
  have fin : ∀ e w', (e = Ending.returned (.tuple #[]) ∧ ((difM m1 m2 a b = 0 ∧ ∃ v, Blk w' bz 65 (fC 2300 0 0 false v 0)) ∨ (difM m1 m2 a b ≠ 0 ∧ ∃ (v : Value) (s n : Nat) (B : Nat), bl (difM m1 m2 a b) + s = 64 * n ∧ 0 < n ∧ n ≤ 35 ∧ s < 64 ∧ Blk w' bz 65 (fC 2300 0 1 neg v (min a b + (n : Int) * 64 - s)) ∧ OwnN w' B (difM m1 m2 a b * 2 ^ s) v)) ∧ Below bz w w') →
      (e = Ending.returned (.tuple #[]) ∧ FVal w' (K + 64) 35 bz (sg neg (difM m1 m2 a b * 2 ^ (min a b + K).toNat) * ((2 ^ 64 : Nat) : Int)) ∧ Below bz w w') := by
    rintro e w' ⟨rfl, h, hW⟩
    refine ⟨rfl, ?_, hW⟩
    rcases h with ⟨h0, v, hb0⟩ | ⟨h0, v, s, n, B, k1, k2, k3, k4, k5, k6⟩
    · rw [h0, Nat.zero_mul, sg_zero, Int.zero_mul]
      exact ⟨0, 0, false, v, 0, hb0, .inl ⟨rfl, rfl⟩⟩
    · exact FVal.fin h0 k1 k2 k3 k4 k5 k6 (by omega) (by omega)
  rcases Int.lt_trichotomy a b with h | h | h
  · exact (usub_lt bz bx bY m1 m2 n1 n2 B1 B2 ax ay ex ey a b _ neg nx ny vx vy w hz hx hy hnx hny ox oy l1 l2 p1 p2 q1 q2 he1 he2 ha hb rfl hS2 h (le_mag z1 (Int.le_of_lt h) hle)).mono fin
  · exact (usub_eq bz bx bY m1 m2 n1 n2 B1 B2 ax ay ex ey a b _ neg nx ny vx vy w hz hx hy hnx hny ox oy l1 l2 p1 p2 q1 q2 he1 he2 ha hb rfl hS2 h (by subst h; have := le_mag z1 (Int.le_refl _) hle; rwa [Int.sub_self, Int.toNat_zero, Nat.pow_zero, Nat.mul_one] at this)).mono fin
  · exact (usub_gt bz bx bY m1 m2 n1 n2 B1 B2 ax ay ex ey a b _ neg nx ny vx vy w hz hx hy hnx hny ox oy l1 l2 p1 p2 q1 q2 he1 he2 ha hb rfl hS2 h (le_mag' z2 (Int.le_of_lt h) hle)).mono fin
set_option maxHeartbeats 4000000 in
set_option maxRecDepth 100000 in
theorem addf_fin (bz bx bY m1 m2 n1 n2 B1 B2 K : Nat) (ax ay ex ey : Int) (nx ny : Bool) (vx vy : Value) (w : World) (hz : Blk w bz 65 (fC 2300 0 0 false (.slice none 0 0) 0)) (hx : Blk w bx 65 (fC 2300 ax 1 nx vx ex)) (hy : Blk w bY 65 (fC 2300 ay 1 ny vy ey))
    (hnx : bx ≠ bz) (hny : bY ≠ bz) (ox : OwnN w B1 m1 vx) (oy : OwnN w B2 m2 vy) (l1 : bl m1 = 64 * n1) (l2 : bl m2 = 64 * n2) (p1 : 0 < n1) (p2 : 0 < n2) (q1 : n1 ≤ 35) (q2 : n2 ≤ 35) (he1 : -9000 ≤ ex ∧ ex ≤ 9000) (he2 : -9000 ≤ ey ∧ ey ≤ 9000)
    (z1 : 0 ≤ ex - ((64 * n1 : Nat) : Int) + K) (z2 : 0 ≤ ey - ((64 * n2 : Nat) : Int) + K) (hS : bl (sumM m1 m2 (ex - ((64 * n1 : Nat) : Int)) (ey - ((64 * n2 : Nat) : Int))) ≤ 2240) (hS' : bl (sumM m2 m1 (ey - ((64 * n2 : Nat) : Int)) (ex - ((64 * n1 : Nat) : Int))) ≤ 2240) :
    Calls Tryz.prog 37 #[.pointer (some ⟨bz, 0, none⟩), .pointer (some ⟨bx, 0, none⟩), .pointer (some ⟨bY, 0, none⟩)] w fun e w' => e = .returned (.pointer (some ⟨bz, 0, none⟩)) ∧
      FVal w' (K + 64) 35 bz ((sg nx (m1 * 2 ^ (ex - ((64 * n1 : Nat) : Int) + K).toNat) + sg ny (m2 * 2 ^ (ey - ((64 * n2 : Nat) : Int) + K).toNat)) * ((2 ^ 64 : Nat) : Int)) ∧ Below bz w w' := by
  obtain ⟨x0, x1, x2, x3, x4, x5, x6⟩ := sev hx
  obtain ⟨y0, y1, y2, y3, y4, y5, y6⟩ := sev hy
  obtain ⟨c0, c1, c2, c3, c4, c5, c6⟩ := sev hz
  obtain ⟨f0, f1, f2, f3, f4, f5, f6⟩ := frz hz
  have hxy : XY bx bY (fC 2300 ax 1 nx vx ex) (fC 2300 ay 1 ny vy ey) B1 B2 m1 m2 vx vy (w.setCell ⟨bz, 4, none⟩ (.bool nx)) := XY.set ⟨hx, hy, ox, oy⟩ hz hnx hny 4 _
  have hz1 := hz.set 4 (.bool nx)
  have hW1 := (Below.refl bz w).setCell (p := ⟨bz, 4, none⟩) (Nat.le_refl _) (.bool nx)
  obtain ⟨M1, hM1⟩ : ∃ M, m1 * 2 ^ (ex - ((64 * n1 : Nat) : Int) + K).toNat = M := ⟨_, rfl⟩
  obtain ⟨M2, hM2⟩ : ∃ M, m2 * 2 ^ (ey - ((64 * n2 : Nat) : Int) + K).toNat = M := ⟨_, rfl⟩
  rw [hM1, hM2]
  have HU := Lib.hid (uadd_fv bz bx bY m1 m2 n1 n2 B1 B2 K ax ay ex ey nx nx ny vx vy _ hz1 hxy.x hxy.y hnx hny hxy.ox hxy.oy l1 l2 p1 p2 q1 q2 he1 he2 z1 z2 hS)
  have HC := Lib.hid (ucmp_calls bx bY K m1 m2 n1 n2 B1 B2 vx vy ax ay ex ey 1 1 nx ny _ hxy.x hxy.y hxy.ox hxy.oy l1 p1 z1 l2 p2 z2)
  have HS1 := Lib.hid (fun (W : World) (hW : Below (w.setCell ⟨bz, 4, none⟩ (.bool nx)).heap.size (w.setCell ⟨bz, 4, none⟩ (.bool nx)) W) (hle : M2 ≤ M1) => usub_fv bz bx bY m1 m2 n1 n2 B1 B2 K ax ay ex ey nx nx ny vx vy W (hz1.below' hW) (hxy.keep hW).x (hxy.keep hW).y hnx hny (hxy.keep hW).ox (hxy.keep hW).oy l1 l2 p1 p2 q1 q2 he1 he2 z1 z2 hS (by rw [hM1, hM2]; exact hle))
  have HS2 := Lib.hid (fun (W : World) (hW : Below (w.setCell ⟨bz, 4, none⟩ (.bool nx)).heap.size (w.setCell ⟨bz, 4, none⟩ (.bool nx)) W) (hle : M1 ≤ M2) => usub_fv bz bY bx m2 m1 n2 n1 B2 B1 K ay ax ey ex (!nx) ny nx vy vx (W.setCell ⟨bz, 4, none⟩ (.bool (!nx))) ((hz1.below' hW).set 4 _) (((hxy.keep hW).set (hz1.below' hW) hnx hny 4 _)).y (((hxy.keep hW).set (hz1.below' hW) hnx hny 4 _)).x hny hnx (((hxy.keep hW).set (hz1.below' hW) hnx hny 4 _)).oy (((hxy.keep hW).set (hz1.below' hW) hnx hny 4 _)).ox l2 l1 p2 p1 q2 q1 he2 he1 z2 z1 hS' (by rw [hM1, hM2]; exact hle))
  have HFZ := Lib.hid (fun (W : World) (hW : Below (w.setCell ⟨bz, 4, none⟩ (.bool nx)).heap.size (w.setCell ⟨bz, 4, none⟩ (.bool nx)) W) => And.intro (hz1.below' hW) (hW1.trans (hW.mono (Nat.le_of_lt hz1.lt))))
  rw [hM1, hM2] at HU HC HS1 HS2
  have HW1 := Lib.hid hW1
  clear hz hx hy ox oy l1 l2 p1 p2 q1 q2 he1 he2 z1 z2 hS hS' hxy hz1 hW1 hM1 hM2
  by_cases hn : nx = ny
  · subst hn
    have hsum : sg nx M1 + sg nx M2 = sg nx (M1 + M2) := by unfold sg; cases nx <;> simp <;> omega
    rw [hsum]
    clear HC HS1 HS2 HFZ hsum
    cases nx
    all_goals (
      go_enter Tryz.func37, Tryz.ntmps37
      go_wp2_with fail
      refine HU.out.mono ?_
      rintro e w2 ⟨rfl, hf, hW2⟩
      have HF := Lib.hid hf
      have HW2 := Lib.hid (HW1.out.trans hW2)
      obtain ⟨acc, form, ng, v, e2, hb, hv⟩ := hf
      obtain ⟨g0, g1, g2, g3, g4, g5, g6⟩ := sev hb
      have hform : (form : Int) = 0 ∨ (form : Int) = 1 := by rcases hv with ⟨rfl, _⟩ | ⟨rfl, _⟩; exact .inl rfl; exact .inr rfl
      obtain ⟨fm, hfm⟩ : ∃ fm : Int, (form : Int) = fm := ⟨_, rfl⟩
      rw [hfm] at hform g3
      clear hb hv hW2 hfm
      rcases hform with rfl | rfl
      all_goals (
        go_wp2
        go_ret
        exact ⟨rfl, HF.out, HW2.out⟩))
  · obtain rfl : ny = !nx := by cases nx <;> cases ny <;> simp_all
    clear hn HU
    by_cases hlt : M2 < M1
    · rw [sg_gt hlt] at HC
      have hle : M2 ≤ M1 := Nat.le_of_lt hlt
      have hsum : sg nx M1 + sg (!nx) M2 = sg nx (M1 - M2) := by unfold sg; cases nx <;> simp <;> omega
      rw [hsum]
      have HLE := Lib.hid hle
      clear hlt hle hsum HS2
      cases nx
      all_goals (
        go_enter Tryz.func37, Tryz.ntmps37
        go_wp2_with fail
        refine HC.out.mono ?_
        rintro e w' ⟨rfl, q, rfl⟩
        go_wp2_with fail
        refine (HS1.out _ (below_drewN (Below.refl _ _) q) HLE.out).mono ?_
        rintro e w2 ⟨rfl, hf, hW2⟩
        have HF := Lib.hid hf
        have HW2 := Lib.hid ((HFZ.out _ (below_drewN (Below.refl _ _) q)).2.trans hW2)
        obtain ⟨acc, form, ng, v, e2, hb, hv⟩ := hf
        obtain ⟨g0, g1, g2, g3, g4, g5, g6⟩ := sev hb
        have hform : (form : Int) = 0 ∨ (form : Int) = 1 := by rcases hv with ⟨rfl, _⟩ | ⟨rfl, _⟩; exact .inl rfl; exact .inr rfl
        obtain ⟨fm, hfm⟩ : ∃ fm : Int, (form : Int) = fm := ⟨_, rfl⟩
        rw [hfm] at hform g3
        clear hb hv hW2 hfm
        rcases hform with rfl | rfl
        all_goals (
          go_wp2
          go_ret
          exact ⟨rfl, HF.out, HW2.out⟩))
    · obtain ⟨cc, hcc⟩ : ∃ cc, Int.sign ((M1 : Int) - (M2 : Int)) = cc := ⟨_, rfl⟩
      have hc0 : ¬ 0 < cc := by
        rw [← hcc]
        rcases Nat.lt_or_eq_of_le (Nat.le_of_not_lt hlt) with h | h
        · rw [sg_lt h]; decide
        · rw [sg_eq h]; decide
      rw [hcc] at HC
      have hsum : sg nx M1 + sg (!nx) M2 = sg (!nx) (M2 - M1) := by unfold sg; cases nx <;> simp <;> omega
      rw [hsum]
      have HLE := Lib.hid (Nat.le_of_not_lt hlt)
      clear hlt hsum HS1 hcc
      cases nx
      all_goals (
        go_enter Tryz.func37, Tryz.ntmps37
        go_wp2_with fail
        refine HC.out.mono ?_
        rintro e w' ⟨rfl, q, rfl⟩
        go_wp2_with fail
        refine (HS2.out _ (below_drewN (Below.refl _ _) q) HLE.out).mono ?_
        rintro e w2 ⟨rfl, hf, hW2⟩
        have HF := Lib.hid hf
        have HW2 := Lib.hid (((HFZ.out _ (below_drewN (Below.refl _ _) q)).2.setCell (p := ⟨bz, 4, none⟩) (Nat.le_refl _) _).trans hW2)
        obtain ⟨acc, form, ng, v, e2, hb, hv⟩ := hf
        obtain ⟨g0, g1, g2, g3, g4, g5, g6⟩ := sev hb
        have hform : (form : Int) = 0 ∨ (form : Int) = 1 := by rcases hv with ⟨rfl, _⟩ | ⟨rfl, _⟩; exact .inl rfl; exact .inr rfl
        obtain ⟨fm, hfm⟩ : ∃ fm : Int, (form : Int) = fm := ⟨_, rfl⟩
        rw [hfm] at hform g3
        clear hb hv hW2 hfm
        rcases hform with rfl | rfl
        all_goals (
          go_wp2
          go_ret
          exact ⟨rfl, HF.out, HW2.out⟩))
end Go.Proofs.YtikdhkmcdmnadaaGreatFmtBesafter

namespace Go.Proofs.YtikdhkmcdmnadaaGreatFmtBesafter
open Go.RowKit
attribute [local go_sem ↓] Go.wp_at_zero Go.wp_at_succ

/-! ### ord, Cmp -/
def ordI (form : Int) (neg : Bool) : Int := if form = 0 then 0 else if neg then -1 else 1
theorem ord_calls (bx : Nat) (ax form ex : Int) (neg : Bool) (v : Value) (w : World) (hx : Blk w bx 65 (fC 2300 ax form neg v ex)) (hf : form = 0 ∨ form = 1) :
    Calls Tryz.prog 64 #[.pointer (some ⟨bx, 0, none⟩)] w fun e w' => e = .returned (.int .i64 (ordI form neg)) ∧ w = w' := by
  obtain ⟨x0, x1, x2, x3, x4, x5, x6⟩ := sev hx
  clear hx
  rcases hf with rfl | rfl <;> cases neg
  all_goals (
    go_enter Tryz.func64, Tryz.ntmps64
    go_wp2
    go_ret
    exact ⟨rfl, rfl⟩)
theorem sign_swap (x y : Int) : Int.sign (x - y) = Int.sign (-y - -x) := by rw [show -y - -x = x - y from by omega]
set_option maxHeartbeats 4000000 in
set_option maxRecDepth 100000 in
theorem cmpf_calls (bx bY K N1 N2 : Nat) (X Y : Int) (w : World) (hx : FVal w K N1 bx X) (hy : FVal w K N2 bY Y) :
    Calls Tryz.prog 41 #[.pointer (some ⟨bx, 0, none⟩), .pointer (some ⟨bY, 0, none⟩)] w fun e w' => e = .returned (.int .i64 (Int.sign (X - Y))) ∧ ∃ q, w' = w.drewN q := by
  obtain ⟨ax, fx, nx, vx, ex, bxb, hvx⟩ := hx
  obtain ⟨ay, fy, ny, vy, ey, byb, hvy⟩ := hy
  have HO1 := Lib.hid (fun W (hW : W = w) => ord_calls bx ax fx ex nx vx W (by subst hW; exact bxb) (by rcases hvx with ⟨rfl, _⟩ | ⟨rfl, _⟩; exact .inl rfl; exact .inr rfl))
  have HO2 := Lib.hid (fun W (hW : W = w) => ord_calls bY ay fy ey ny vy W (by subst hW; exact byb) (by rcases hvy with ⟨rfl, _⟩ | ⟨rfl, _⟩; exact .inl rfl; exact .inr rfl))
  have easy : ∀ s : Int, s = Int.sign (X - Y) → ordI fx nx ≠ ordI fy ny → (s = if ordI fx nx < ordI fy ny then -1 else 1) → Calls Tryz.prog 41 #[.pointer (some ⟨bx, 0, none⟩), .pointer (some ⟨bY, 0, none⟩)] w fun e w' => e = .returned (.int .i64 (Int.sign (X - Y))) ∧ ∃ q, w' = w.drewN q := by
    intro s hs hne hlt
    rw [← hs]
    obtain ⟨o1, ho1⟩ : ∃ o, ordI fx nx = o := ⟨_, rfl⟩
    obtain ⟨o2, ho2⟩ : ∃ o, ordI fy ny = o := ⟨_, rfl⟩
    rw [ho1] at HO1 hlt hne
    rw [ho2] at HO2 hlt hne
    rcases Int.lt_or_le o1 o2 with h | h
    · rw [if_pos h] at hlt
      subst hlt
      clear ho1 ho2 hne hs hvx hvy bxb byb
      go_enter Tryz.func41, Tryz.ntmps41
      go_wp2_with fail
      refine (HO1.out _ rfl).mono ?_
      rintro e w' ⟨rfl, rfl⟩
      go_wp2_with fail
      refine (HO2.out _ rfl).mono ?_
      rintro e w' ⟨rfl, rfl⟩
      go_wp2
      go_ret
      exact ⟨rfl, 0, rfl⟩
    · rw [if_neg (by omega)] at hlt
      subst hlt
      have h1 : ¬ o1 < o2 := by omega
      have h2 : o2 < o1 := by omega
      clear ho1 ho2 hne hs hvx hvy bxb byb h
      go_enter Tryz.func41, Tryz.ntmps41
      go_wp2_with fail
      refine (HO1.out _ rfl).mono ?_
      rintro e w' ⟨rfl, rfl⟩
      go_wp2_with fail
      refine (HO2.out _ rfl).mono ?_
      rintro e w' ⟨rfl, rfl⟩
      go_wp2
      go_ret
      exact ⟨rfl, 0, rfl⟩
  have pos : ∀ {K m : Nat} {e : Int} {n : Nat}, bl m = 64 * n → 0 < n → 0 < m * 2 ^ (e - ((64 * n : Nat) : Int) + K).toNat := fun h h2 => Nat.mul_pos (Nat.pos_of_ne_zero (by intro h3; subst h3; rw [bl_zero] at h; omega)) (Nat.pow_pos (by decide))
  rcases hvx with ⟨rfl, rfl⟩ | ⟨rfl, B1, m1, n1, o1, l1, p1, q1, z1, rfl, e1⟩
  · rcases hvy with ⟨rfl, rfl⟩ | ⟨rfl, B2, m2, n2, o2, l2, p2, q2, z2, rfl, e2⟩
    · clear easy
      rw [show ordI ((0 : Nat) : Int) nx = 0 from rfl] at HO1
      rw [show ordI ((0 : Nat) : Int) ny = 0 from rfl] at HO2
      clear bxb byb pos
      go_enter Tryz.func41, Tryz.ntmps41
      go_wp2_with fail
      refine (HO1.out _ rfl).mono ?_
      rintro e w' ⟨rfl, rfl⟩
      go_wp2_with fail
      refine (HO2.out _ rfl).mono ?_
      rintro e w' ⟨rfl, rfl⟩
      go_wp2
      go_ret
      exact ⟨rfl, 0, rfl⟩
    · have hp := pos (K := K) (e := ey) l2 p2
      cases ny
      · exact easy (-1) (Int.sign_eq_neg_one_of_neg (by simp only [sg, Bool.false_eq_true, if_false]; omega)).symm (by unfold ordI; simp) (by unfold ordI; simp)
      · exact easy 1 (Int.sign_eq_one_of_pos (by simp only [sg, if_true]; omega)).symm (by unfold ordI; simp) (by unfold ordI; simp)
  · have hp1 := pos (K := K) (e := ex) l1 p1
    rcases hvy with ⟨rfl, rfl⟩ | ⟨rfl, B2, m2, n2, o2, l2, p2, q2, z2, rfl, e2⟩
    · cases nx
      · exact easy 1 (Int.sign_eq_one_of_pos (by simp only [sg, Bool.false_eq_true, if_false]; omega)).symm (by unfold ordI; simp) (by unfold ordI; simp)
      · exact easy (-1) (Int.sign_eq_neg_one_of_neg (by simp only [sg, if_true]; omega)).symm (by unfold ordI; simp) (by unfold ordI; simp)
    · have hp2 := pos (K := K) (e := ey) l2 p2
      cases nx <;> cases ny
      · have HC := Lib.hid (ucmp_calls bx bY K m1 m2 n1 n2 B1 B2 vx vy ax ay ex ey 1 1 false false w bxb byb o1 o2 l1 p1 z1 l2 p2 z2)
        rw [show ordI ((1 : Nat) : Int) false = 1 from rfl] at HO1 HO2
        obtain ⟨M1, hM1⟩ : ∃ M, m1 * 2 ^ (ex - ((64 * n1 : Nat) : Int) + K).toNat = M := ⟨_, rfl⟩
        obtain ⟨M2, hM2⟩ : ∃ M, m2 * 2 ^ (ey - ((64 * n2 : Nat) : Int) + K).toNat = M := ⟨_, rfl⟩
        rw [hM1, hM2] at HC
        rw [hM1, hM2]
        have hs : Int.sign (sg false M1 - sg false M2) = Int.sign ((M1 : Int) - (M2 : Int)) := rfl
        rw [hs]
        obtain ⟨s, hs'⟩ : ∃ s, Int.sign ((M1 : Int) - (M2 : Int)) = s := ⟨_, rfl⟩
        rw [hs'] at HC ⊢
        clear easy bxb byb pos hM1 hM2 hs hs' hp1 hp2
        go_enter Tryz.func41, Tryz.ntmps41
        go_wp2_with fail
        refine (HO1.out _ rfl).mono ?_
        rintro e w' ⟨rfl, rfl⟩
        go_wp2_with fail
        refine (HO2.out _ rfl).mono ?_
        rintro e w' ⟨rfl, rfl⟩
        go_wp2_with fail
        refine HC.out.mono ?_
        rintro e w' ⟨rfl, q, rfl⟩
        go_wp2
        go_ret
        exact ⟨rfl, q, rfl⟩
      · exact easy 1 (Int.sign_eq_one_of_pos (by simp only [sg, Bool.false_eq_true, if_false, if_true]; omega)).symm (by unfold ordI; simp) (by unfold ordI; simp)
      · exact easy (-1) (Int.sign_eq_neg_one_of_neg (by simp only [sg, Bool.false_eq_true, if_false, if_true]; omega)).symm (by unfold ordI; simp) (by unfold ordI; simp)
      · have HC := Lib.hid (ucmp_calls bY bx K m2 m1 n2 n1 B2 B1 vy vx ay ax ey ex 1 1 true true w byb bxb o2 o1 l2 p2 z2 l1 p1 z1)
        rw [show ordI ((1 : Nat) : Int) true = -1 from rfl] at HO1 HO2
        obtain ⟨M1, hM1⟩ : ∃ M, m1 * 2 ^ (ex - ((64 * n1 : Nat) : Int) + K).toNat = M := ⟨_, rfl⟩
        obtain ⟨M2, hM2⟩ : ∃ M, m2 * 2 ^ (ey - ((64 * n2 : Nat) : Int) + K).toNat = M := ⟨_, rfl⟩
        rw [hM1, hM2] at HC
        rw [hM1, hM2]
        have hs : Int.sign (sg true M1 - sg true M2) = Int.sign ((M2 : Int) - (M1 : Int)) := by
          rw [show sg true M1 - sg true M2 = (M2 : Int) - (M1 : Int) from by simp only [sg, if_true]; omega]
        rw [hs]
        obtain ⟨s, hs'⟩ : ∃ s, Int.sign ((M2 : Int) - (M1 : Int)) = s := ⟨_, rfl⟩
        rw [hs'] at HC ⊢
        clear easy bxb byb pos hM1 hM2 hs hs' hp1 hp2
        go_enter Tryz.func41, Tryz.ntmps41
        go_wp2_with fail
        refine (HO1.out _ rfl).mono ?_
        rintro e w' ⟨rfl, rfl⟩
        go_wp2_with fail
        refine (HO2.out _ rfl).mono ?_
        rintro e w' ⟨rfl, rfl⟩
        go_wp2_with fail
        refine HC.out.mono ?_
        rintro e w' ⟨rfl, q, rfl⟩
        go_wp2
        go_ret
        exact ⟨rfl, q, rfl⟩
end Go.Proofs.YtikdhkmcdmnadaaGreatFmtBesafter

namespace Go.Proofs.YtikdhkmcdmnadaaGreatFmtBesafter
open Go.RowKit
attribute [local go_sem ↓] Go.wp_at_zero Go.wp_at_succ

/-! ### Set, of one precision -/
set_option exponentiation.threshold 3000 in
set_option maxHeartbeats 4000000 in
set_option maxRecDepth 100000 in
theorem set_same (b bx n m B : Nat) (ax ex : Int) (neg : Bool) (v : Value) (w : World) (hb : Blk w b 65 (fC 2300 0 0 false (.slice none 0 0) 0)) (hx : Blk w bx 65 (fC 2300 ax 1 neg v ex)) (hO : OwnN w B m v) (hne : b ≠ bx)
    (hbl : bl m = 64 * n) (h0 : 0 < n) (h35 : n ≤ 35) (hex : -20000 ≤ ex ∧ ex ≤ 20000) :
    Calls Tryz.prog 60 #[.pointer (some ⟨b, 0, none⟩), .pointer (some ⟨bx, 0, none⟩)] w fun e w' => e = .returned (.pointer (some ⟨b, 0, none⟩)) ∧ (∃ v' B', Blk w' b 65 (fC 2300 0 1 neg v' ex) ∧ OwnN w' B' m v') ∧ Below b w w' := by
  have hm0 : m ≠ 0 := by intro h; subst h; rw [bl_zero] at hbl; omega
  obtain ⟨A, n', c, rfl, _⟩ := hO.shape
  have hw := hO.words hm0
  obtain rfl : n' = n := by omega
  obtain ⟨x0, x1, x2, x3, x4, x5, x6⟩ := sev hx
  obtain ⟨z0, z1, z2, z3, z4, z5, z6⟩ := sev hb
  obtain ⟨f0, f1, f2, f3, f4, f5, f6⟩ := frz hb
  have hbx : ¬ bx = b := fun h => hne h.symm
  have hneq1 := neq_flt_other (w.setCell ⟨b, 2, none⟩ (.int .i8 0)) (a := ⟨b, 0, none⟩) (b := ⟨bx, 0, none⟩) (by intro h; injection h with h; exact hne h) (hb.set 2 (.int .i8 0)) (hx.set_far hbx 2 (.int .i8 0))
  have HB := Lib.hid (And.intro hb (And.intro hx (And.intro hO hm0)))
  have hL : m < B64 ^ 36 := by
    rw [pow64]; exact Nat.lt_of_lt_of_le (bl_lt m) (Nat.pow_le_pow_right (by decide) (by omega))
  have HL := Lib.hid hL
  have HN := Lib.hid (And.intro hbl (And.intro h0 (And.intro h35 hex)))
  clear hb hx hO hbl h0 h35 hex hw hm0 hL
  go_enter Tryz.func60, Tryz.ntmps60
  go_wp2
  obtain ⟨k1, k2, k3, k4⟩ := HB.out
  have hb1 : Blk ((((w.setCell ⟨b, 2, none⟩ (.int .i8 0)).setCell ⟨b, 3, none⟩ (.int .u8 1)).setCell ⟨b, 4, none⟩ (.bool neg)).setCell ⟨b, 6, none⟩ (.int .i32 ex)) b 65 (fC 2300 0 1 neg (.slice none 0 0) ex) := (((k1.set 2 _).set 3 _).set 4 _).set 6 _
  have hx1 : Blk ((((w.setCell ⟨b, 2, none⟩ (.int .i8 0)).setCell ⟨b, 3, none⟩ (.int .u8 1)).setCell ⟨b, 4, none⟩ (.bool neg)).setCell ⟨b, 6, none⟩ (.int .i32 ex)) bx 65 (fC 2300 ax 1 neg (.slice A n' c) ex) := (((k2.set_far hbx 2 _).set_far hbx 3 _).set_far hbx 4 _).set_far hbx 6 _
  have hO1 : OwnN ((((w.setCell ⟨b, 2, none⟩ (.int .i8 0)).setCell ⟨b, 3, none⟩ (.int .u8 1)).setCell ⟨b, 4, none⟩ (.bool neg)).setCell ⟨b, 6, none⟩ (.int .i32 ex)) B m (.slice A n' c) := (((k3.setF k1 2 _).setF (k1.set 2 _) 3 _).setF ((k1.set 2 _).set 3 _) 4 _).setF (((k1.set 2 _).set 3 _).set 4 _) 6 _
  have hW1 : Below b w ((((w.setCell ⟨b, 2, none⟩ (.int .i8 0)).setCell ⟨b, 3, none⟩ (.int .u8 1)).setCell ⟨b, 4, none⟩ (.bool neg)).setCell ⟨b, 6, none⟩ (.int .i32 ex)) := ((((Below.refl b w).setCell (p := ⟨b, 2, none⟩) (Nat.le_refl _) _).setCell (p := ⟨b, 3, none⟩) (Nat.le_refl _) _).setCell (p := ⟨b, 4, none⟩) (Nat.le_refl _) _).setCell (p := ⟨b, 6, none⟩) (Nat.le_refl _) _
  obtain ⟨w1, hw1⟩ : ∃ W, (((w.setCell ⟨b, 2, none⟩ (.int .i8 0)).setCell ⟨b, 3, none⟩ (.int .u8 1)).setCell ⟨b, 4, none⟩ (.bool neg)).setCell ⟨b, 6, none⟩ (.int .i32 ex) = W := ⟨_, rfl⟩
  rw [hw1] at hb1 hx1 hO1 hW1 ⊢
  have H1 := Lib.hid (And.intro hb1 (And.intro hx1 (And.intro hO1 hW1)))
  have HS := Lib.hid (fun (W : World) (hW : Below w1.heap.size w1 W) => nset_calls (.slice none 0 0) (.slice A n' c) 0 m W W.heap.size B (.inl ⟨rfl, rfl⟩) (Nat.le_refl _) (H1.out.2.2.1.keep hW) 36 HL.out (by decide))
  clear hw1 hb1 hx1 hO1 hW1 k1 k2 k3 k4 x0 x1 x2 x3 x4 x5 x6 z0 z1 z2 z3 z4 z5 z6 f0 f1 f2 f3 f4 f5 f6 hneq1
  obtain ⟨x0, x1, x2, x3, x4, x5, x6⟩ := sev H1.out.2.1
  obtain ⟨z0, z1, z2, z3, z4, z5, z6⟩ := sev H1.out.1
  obtain ⟨f0, f1, f2, f3, f4, f5, f6⟩ := frz H1.out.1
  go_region_with (go_at_call 78; refine (HS.out _ (by repeat (first | exact Below.refl _ _ | (with_reducible apply below_drewN) | (with_reducible apply Below.drew)))).mono ?_; rintro e w2 ⟨v, rfl, hO2, hW2⟩; have hw2 := hO2; have HO22 := Lib.hid hO2; obtain ⟨g, Z, n2, rfl, hgB, hgb, hz, hn2, hl2, ht2, hv2⟩ := hO2.resolve_left (fun h => HB.out.2.2.2 h.2); have hwd := OwnN.words hw2 HB.out.2.2.2; have hb12 : Below w1.heap.size w1 w2 := Below.trans (by repeat (first | exact Below.refl _ _ | (with_reducible apply below_drewN) | (with_reducible apply Below.drew))) hW2; have H2 : Hid (Blk w2 b 65 (fC 2300 0 1 neg (.slice none 0 0) ex) ∧ Blk w2 bx 65 (fC 2300 ax 1 neg (.slice A n' c) ex) ∧ Blk w2 g 85 (i64s Z) ∧ (∀ d ∈ Z, d < B64) ∧ n2 ≤ Z.length ∧ Z.length ≤ 1099511627776 ∧ val B64 (Z.take n2) = m ∧ n2 = n' ∧ b < g ∧ Below b w w2) := ⟨H1.out.1.below' hb12, H1.out.2.1.below' hb12, hgb, hz, hn2, hl2, hv2, by have := HN.out.1; omega, Nat.lt_of_lt_of_le H1.out.1.lt hgB, H1.out.2.2.2.trans (hb12.mono (Nat.le_of_lt H1.out.1.lt))⟩; clear hw2 hgB hgb hz hn2 hl2 ht2 hv2 hwd hb12 hW2 hO2; obtain ⟨y0, y1, y2, y3, y4, y5, y6⟩ := sev H2.out.1; obtain ⟨g0, g1, g2, g3, g4, g5, g6⟩ := frz H2.out.1)
  all_goals (
    obtain rfl : n2 = n' := H2.out.2.2.2.2.2.2.2.1
    have hb3 : Blk (w2.setCell ⟨b, 5, none⟩ (.slice (some ⟨g, 0, none⟩) n2 Z.length)) b 65 (fC 2300 0 1 neg (.slice (some ⟨g, 0, none⟩) n2 Z.length) ex) := H2.out.1.set 5 _
    have hx3 : Blk (w2.setCell ⟨b, 5, none⟩ (.slice (some ⟨g, 0, none⟩) n2 Z.length)) bx 65 (fC 2300 ax 1 neg (.slice A n2 c) ex) := H2.out.2.1.set_far hbx 5 _
    have hg3 : Blk (w2.setCell ⟨b, 5, none⟩ (.slice (some ⟨g, 0, none⟩) n2 Z.length)) g 85 (i64s Z) := H2.out.2.2.1.set_far (Nat.ne_of_gt H2.out.2.2.2.2.2.2.2.2.1) 5 _
    have hW3 : Below b w (w2.setCell ⟨b, 5, none⟩ (.slice (some ⟨g, 0, none⟩) n2 Z.length)) := H2.out.2.2.2.2.2.2.2.2.2.setCell (p := ⟨b, 5, none⟩) (Nat.le_refl _) _
    have HO3 : OwnN (w2.setCell ⟨b, 5, none⟩ (.slice (some ⟨g, 0, none⟩) n2 Z.length)) w1.heap.size m (.slice (some ⟨g, 0, none⟩) n2 Z.length) := OwnN.setF HO22.out H2.out.1 5 _
    obtain ⟨w3, hw3⟩ : ∃ W, w2.setCell ⟨b, 5, none⟩ (.slice (some ⟨g, 0, none⟩) n2 Z.length) = W := ⟨_, rfl⟩
    rw [hw3] at hb3 hx3 hg3 hW3 HO3 ⊢
    have H3 := Lib.hid (And.intro hb3 (And.intro hx3 (And.intro hg3 hW3)))
    clear hb3 hx3 hg3 hW3 hw3 x0 x1 x2 x3 x4 x5 x6 z0 z1 z2 z3 z4 z5 z6 f0 f1 f2 f3 f4 f5 f6 y0 y1 y2 y3 y4 y5 y6 g0 g1 g2 g3 g4 g5 g6
    obtain ⟨x0, x1, x2, x3, x4, x5, x6⟩ := sev H3.out.2.1
    obtain ⟨z0, z1, z2, z3, z4, z5, z6⟩ := sev H3.out.1
    have HOO : Hid (OwnN w3 w1.heap.size m (.slice (some ⟨g, 0, none⟩) n2 Z.length)) := HO3
    clear HO3
    go_wp2
    go_region
    all_goals (
      go_wp2
      go_ret
      refine ⟨rfl, ⟨_, w1.heap.size, H3.out.1, HOO.out⟩, ?_⟩
      repeat (first | exact H3.out.2.2.2 | (with_reducible apply below_drewN) | (with_reducible apply Below.drew))))
end Go.Proofs.YtikdhkmcdmnadaaGreatFmtBesafter
