/- Walks and plain laws of this seat's functions, part 30: G13 G13b G14 G15 G16 G21 G22. -/
import Derived.Deep.CutBlock
import Derived.Test.YtikdhkmcdmnadaaGreatFmtJ25
import Derived.Test.YtikdhkmcdmnadaaGreatFmtJ29
set_option linter.unusedVariables false
set_option linter.unusedSimpArgs false
namespace Go.Proofs.YtikdhkmcdmnadaaGreatFmt
open Go.RowKit
attribute [local go_sem ↓] Go.wp_at_zero Go.wp_at_succ

/-! ### ucmp -/
theorem drew1 (w : World) : ∃ q, w.drew = w.drewN q := ⟨1, rfl⟩
theorem drew2 (w : World) : ∃ q, w.drew.drew = w.drewN q := ⟨2, rfl⟩
theorem sg_lt {a b : Nat} (h : a < b) : Int.sign ((a : Int) - b) = -1 := Int.sign_eq_neg_one_of_neg (by omega)
theorem sg_gt {a b : Nat} (h : b < a) : Int.sign ((a : Int) - b) = 1 := Int.sign_eq_one_of_pos (by omega)
theorem sg_eq {a b : Nat} (h : a = b) : Int.sign ((a : Int) - b) = 0 := by subst h; simp
theorem val_top_lt {xs ys : List Nat} {k x y : Nat} (hx : ∀ d ∈ xs, d < B64) (hlx : k < xs.length) (hly : k < ys.length) (hd : xs.drop (k + 1) = ys.drop (k + 1)) (h1 : xs.getD k 0 = x) (h2 : ys.getD k 0 = y) (h : x < y) : val B64 xs < val B64 ys := by
  rw [val_split1 B64 xs k hlx, val_split1 B64 ys k hly, hd, h1, h2]
  have hlt := val_lt (B := B64) (by decide) (xs.take k) (fun d hd => hx d (List.mem_of_mem_take hd))
  rw [List.length_take, Nat.min_eq_left (by omega)] at hlt
  generalize B64 * val B64 (ys.drop (k + 1)) = T
  have h3 : B64 ^ k * (x + T) + B64 ^ k ≤ B64 ^ k * (y + T) := by
    rw [← Nat.mul_succ]; exact Nat.mul_le_mul_left _ (by omega)
  omega
def padZ (N n : Nat) (xs : List Nat) : List Nat := List.replicate (N - n) 0 ++ xs
theorem padZ_len {N n : Nat} {xs : List Nat} (hl : xs.length = n) (h : n ≤ N) : (padZ N n xs).length = N := by unfold padZ; simp; omega
theorem padZ_lo {N n k : Nat} {xs : List Nat} (h : k < N - n) : (padZ N n xs).getD k 0 = 0 := by
  unfold padZ
  rw [List.getD_eq_getElem?_getD, List.getElem?_append_left (by simpa using h), List.getElem?_replicate, if_pos h]; rfl
theorem padZ_hi {N n k : Nat} {xs : List Nat} (h : N - n ≤ k) : (padZ N n xs).getD k 0 = xs.getD (k - (N - n)) 0 := by
  unfold padZ
  rw [List.getD_eq_getElem?_getD, List.getD_eq_getElem?_getD, List.getElem?_append_right (by simpa using h), List.length_replicate]
theorem padZ_bd {N n : Nat} {xs : List Nat} (h : ∀ d ∈ xs, d < B64) : ∀ d ∈ padZ N n xs, d < B64 := by
  intro d hd
  rcases List.mem_append.1 hd with h1 | h1
  · rw [(List.mem_replicate.1 h1).2]; decide
  · exact h d h1
theorem padZ_val {N n : Nat} {xs : List Nat} : val B64 (padZ N n xs) = B64 ^ (N - n) * val B64 xs := val_zeros _ _ _
theorem drop_step {X Y : List Nat} {k : Nat} (hlx : k < X.length) (hly : k < Y.length) (h : X.drop (k + 1) = Y.drop (k + 1)) (he : X.getD k 0 = Y.getD k 0) : X.drop k = Y.drop k := by
  rw [List.drop_eq_getElem_cons hlx, List.drop_eq_getElem_cons hly, h]
  rw [List.getD_eq_getElem?_getD, List.getD_eq_getElem?_getD, List.getElem?_eq_getElem hlx, List.getElem?_eq_getElem hly] at he
  simp at he
  rw [he]
set_option maxHeartbeats 4000000 in
set_option maxRecDepth 100000 in
theorem ucmp_eq (bx bY m1 m2 n1 n2 c1 c2 B1 B2 N : Nat) (A1 A2 : Option Addr) (ax ay ex : Int) (fx fy : Int) (nx ny : Bool) (w : World) (hx : Blk w bx 82 (fC 2300 ax fx nx (.slice A1 n1 c1) ex)) (hy : Blk w bY 82 (fC 2300 ay fy ny (.slice A2 n2 c2) ex))
    (ox : OwnN w B1 m1 (.slice A1 n1 c1)) (oy : OwnN w B2 m2 (.slice A2 n2 c2)) (h1 : n1 ≤ N) (h2 : n2 ≤ N) (h3 : N = n1 ∨ N = n2) :
    Calls Tryz.prog 71 #[.pointer (some ⟨bx, 0, none⟩), .pointer (some ⟨bY, 0, none⟩)] w fun e w' => e = .returned (.int .i64 (Int.sign (((B64 ^ (N - n1) * m1 : Nat) : Int) - ((B64 ^ (N - n2) * m2 : Nat) : Int)))) ∧ ∃ q, w' = w.drewN q := by
  obtain ⟨x0, x1, x2, x3, x4, x5, x6⟩ := sev hx
  obtain ⟨y0, y1, y2, y3, y4, y5, y6⟩ := sev hy
  obtain ⟨A, n, c, xs, hs, hl, hlc, hcb, hA, ht, hm, hne, hlt⟩ := ox.row
  injection hs with hs1 hs2 hs3
  subst hs1 hs2 hs3
  obtain ⟨A', n', c', ys, hs, hl', hlc', hcb', hA', ht', hm', hne', hlt'⟩ := oy.row
  injection hs with hs1 hs2 hs3
  subst hs1 hs2 hs3
  have hb1 := u64bd hA
  have hb2 := u64bd hA'
  have HP : Hid ((padZ N n1 xs).length = N ∧ (padZ N n2 ys).length = N ∧ (∀ d ∈ padZ N n1 xs, d < B64) ∧ (∀ d ∈ padZ N n2 ys, d < B64)) := ⟨padZ_len hl h1, padZ_len hl' h2, padZ_bd hb1, padZ_bd hb2⟩
  rw [← hm, ← hm', ← padZ_val, ← padZ_val]
  have HA := Lib.hid hA
  have HA2 := Lib.hid hA'
  have HL := Lib.hid (And.intro hl (And.intro hl' (And.intro hlc hlc')))
  obtain ⟨VX, hVX⟩ : ∃ V, val B64 (padZ N n1 xs) = V := ⟨_, rfl⟩
  obtain ⟨VY, hVY⟩ : ∃ V, val B64 (padZ N n2 ys) = V := ⟨_, rfl⟩
  rw [hVX, hVY]
  have HV : Hid (val B64 (padZ N n1 xs) = VX ∧ val B64 (padZ N n2 ys) = VY) := ⟨hVX, hVY⟩
  have HN : Hid (n1 ≤ N ∧ n2 ≤ N ∧ (N = n1 ∨ N = n2) ∧ n1 ≤ 1099511627776 ∧ n2 ≤ 1099511627776) := ⟨h1, h2, h3, by omega, by omega⟩
  clear hA hA' ht ht' hm hm' hne hne' hlt hlt' hb1 hb2 hx hy ox oy hl hl' hlc hlc' hcb hcb' hVX hVY
  have hexx : ¬ ex < ex := by omega
  obtain ⟨pk1, hk1⟩ : ∃ p, N - n1 = p := ⟨_, rfl⟩
  obtain ⟨pk2, hk2⟩ : ∃ p, N - n2 = p := ⟨_, rfl⟩
  go_enter Tryz.func71, Tryz.ntmps71
  go_upto_region 2 with fail
  go_region
  all_goals (
    go_upto_region 4 with fail
    go_region)
  all_goals (
    go_wp2
    go_loop [5, 6] (fun i j => ∃ k : Nat, k ≤ N ∧ i = .int .i64 ((k - pk1 : Nat) : Int) ∧ j = .int .i64 ((k - pk2 : Nat) : Int) ∧ Hid ((padZ N n1 xs).drop k = (padZ N n2 ys).drop k)) (fun i j => (intOf i).toNat + (intOf j).toNat)
    case atStart =>
      refine ⟨N, Nat.le_refl _, ?_, ?_, ?_⟩
      · rw [show N - pk1 = n1 from by omega]
      · rw [show N - pk2 = n2 from by omega]
      · rw [Hid, List.drop_of_length_le (by rw [HP.out.1]; exact Nat.le_refl _), List.drop_of_length_le (by rw [HP.out.2.1]; exact Nat.le_refl _)]
    case round =>
      obtain ⟨k, hk, rfl, rfl, hd⟩ := hrel
      rcases k with _ | k
      · rw [Nat.zero_sub, Nat.zero_sub]
        have HE : Hid (VX = VY) := by
          have := hd.out
          rw [List.drop_zero, List.drop_zero] at this
          rw [Hid, ← HV.out.1, ← HV.out.2, this]
        clear hd hk
        go_wp2
        go_ret
        exact ⟨ret_int' (sg_eq HE.out).symm, drew2 _⟩
      · have hkx : k < (padZ N n1 xs).length := by rw [HP.out.1]; omega
        have hky : k < (padZ N n2 ys).length := by rw [HP.out.2.1]; omega
        have HK := Lib.hid (And.intro hkx hky)
        have HX : Hid (∃ x : Nat, x < 18446744073709551616 ∧ (padZ N n1 xs).getD k 0 = x ∧ ((k < pk1 ∧ k + 1 - pk1 = 0 ∧ k - pk1 = 0 ∧ x = 0) ∨ (∃ (i : Nat) (a : Addr), k + 1 - pk1 = i + 1 ∧ k - pk1 = i ∧ i < n1 ∧ A1 = some a ∧ w.cell? (a.add i) = some (.int .u64 (x : Int))))) := by
          by_cases h : k < pk1
          · exact ⟨0, by decide, padZ_lo (by omega), .inl ⟨h, by omega, by omega, rfl⟩⟩
          · obtain ⟨a, x, ha, hc, hb, he⟩ := u64at (i := k - pk1) HA.out (by rw [HL.out.1]; have := HN.out; omega)
            refine ⟨x, hb, ?_, .inr ⟨k - pk1, a, by omega, rfl, by have := HN.out; omega, ha, hc⟩⟩
            rw [padZ_hi (by omega), show k - (N - n1) = k - pk1 from by omega]; exact he.out
        have HY : Hid (∃ y : Nat, y < 18446744073709551616 ∧ (padZ N n2 ys).getD k 0 = y ∧ ((k < pk2 ∧ k + 1 - pk2 = 0 ∧ k - pk2 = 0 ∧ y = 0) ∨ (∃ (i : Nat) (a : Addr), k + 1 - pk2 = i + 1 ∧ k - pk2 = i ∧ i < n2 ∧ A2 = some a ∧ w.cell? (a.add i) = some (.int .u64 (y : Int))))) := by
          by_cases h : k < pk2
          · exact ⟨0, by decide, padZ_lo (by omega), .inl ⟨h, by omega, by omega, rfl⟩⟩
          · obtain ⟨a, x, ha, hc, hb, he⟩ := u64at (i := k - pk2) HA2.out (by rw [HL.out.2.1]; have := HN.out; omega)
            refine ⟨x, hb, ?_, .inr ⟨k - pk2, a, by omega, rfl, by have := HN.out; omega, ha, hc⟩⟩
            rw [padZ_hi (by omega), show k - (N - n2) = k - pk2 from by omega]; exact he.out
        have HM : Hid (k < pk1 → k < pk2 → False) := fun a b => by have := HN.out; omega
        obtain ⟨x, hxb, hxk, hxc⟩ := HX.out
        obtain ⟨y, hyb, hyk, hyc⟩ := HY.out
        have HC : Hid ((x < y → Int.sign ((VX : Int) - VY) = -1) ∧ (y < x → Int.sign ((VX : Int) - VY) = 1) ∧ (x = y → (padZ N n1 xs).drop k = (padZ N n2 ys).drop k)) := by
          refine ⟨fun h => ?_, fun h => ?_, fun h => ?_⟩
          · rw [← HV.out.1, ← HV.out.2]; exact sg_lt (val_top_lt HP.out.2.2.1 HK.out.1 HK.out.2 hd.out hxk hyk h)
          · rw [← HV.out.1, ← HV.out.2]; exact sg_gt (val_top_lt HP.out.2.2.2 HK.out.2 HK.out.1 hd.out.symm hyk hxk h)
          · exact drop_step HK.out.1 HK.out.2 hd.out (by rw [hxk, hyk, h])
        have hkN : k ≤ N := by omega
        clear hd hk hkx hky hxk hyk
        rcases hxc with ⟨p1, p2, p3, rfl⟩ | ⟨i, a, p2, p3, p4, rfl, hcx⟩ <;> rcases hyc with ⟨q1, q2, q3, rfl⟩ | ⟨j, b, q2, q3, q4, rfl, hcy⟩
        · exact (HM.out p1 q1).elim
        · rw [p2, q2]
          have HPQ := Lib.hid (And.intro p3 q3)
          have j1 : (0 : Int) < (j : Int) + 1 := by omega
          have j2 : (0 : Int) ≤ (j : Int) := by omega
          have j3 : (j : Int) < (n2 : Int) := by omega
          have j4 : IntKind.i64.wrap (j : Int) = j := IntWalk.i64_in _ (by have := HN.out; omega)
          have HKN := Lib.hid hkN
          clear p1 p2 p3 q2 q3 q4 HX HY hxb hyb hkN h1 h2 h3
          rcases Nat.eq_zero_or_pos y with h | h
          · have HD := Lib.hid (HC.out.2.2 h.symm)
            subst h
            go_wp2
            go_round
            case rel => exact ⟨k, HKN.out, by rw [HPQ.out.1], by rw [HPQ.out.2], HD.out⟩
            case measure => simp [intOf]; try omega
          · have HD := Lib.hid (HC.out.1 h)
            have h' : (0 : Int) < (y : Int) := by omega
            clear h
            go_wp2
            go_ret
            exact ⟨ret_int' (HD.out).symm, drew2 _⟩
        · rw [p2, q2]
          have HPQ := Lib.hid (And.intro p3 q3)
          have i1 : (0 : Int) < (i : Int) + 1 := by omega
          have i2 : (0 : Int) ≤ (i : Int) := by omega
          have i3 : (i : Int) < (n1 : Int) := by omega
          have i4 : IntKind.i64.wrap (i : Int) = i := IntWalk.i64_in _ (by have := HN.out; omega)
          have HKN := Lib.hid hkN
          clear q1 p2 p3 q2 q3 p4 HX HY hxb hyb hkN h1 h2 h3
          rcases Nat.eq_zero_or_pos x with h | h
          · have HD := Lib.hid (HC.out.2.2 h)
            subst h
            go_wp2
            go_round
            case rel => exact ⟨k, HKN.out, by rw [HPQ.out.1], by rw [HPQ.out.2], HD.out⟩
            case measure => simp [intOf]; try omega
          · have HD := Lib.hid (HC.out.2.1 h)
            have h' : (0 : Int) < (x : Int) := by omega
            have h'' : ¬ (x : Int) < 0 := by omega
            clear h
            go_wp2
            go_ret
            exact ⟨ret_int' (HD.out).symm, drew2 _⟩
        · rw [p2, q2]
          have HPQ := Lib.hid (And.intro p3 q3)
          have i1 : (0 : Int) < (i : Int) + 1 := by omega
          have i2 : (0 : Int) ≤ (i : Int) := by omega
          have i3 : (i : Int) < (n1 : Int) := by omega
          have i4 : IntKind.i64.wrap (i : Int) = i := IntWalk.i64_in _ (by have := HN.out; omega)
          have j1 : (0 : Int) < (j : Int) + 1 := by omega
          have j2 : (0 : Int) ≤ (j : Int) := by omega
          have j3 : (j : Int) < (n2 : Int) := by omega
          have j4 : IntKind.i64.wrap (j : Int) = j := IntWalk.i64_in _ (by have := HN.out; omega)
          have HKN := Lib.hid hkN
          clear p2 p3 q2 q3 p4 q4 HX HY hxb hyb hkN h1 h2 h3
          rcases Nat.lt_trichotomy x y with h | h | h
          · have HD := Lib.hid (HC.out.1 h)
            have h' : (x : Int) < (y : Int) := by omega
            clear h
            go_wp2
            go_ret
            exact ⟨ret_int' (HD.out).symm, drew2 _⟩
          · have HD := Lib.hid (HC.out.2.2 h)
            subst h
            have h' : ¬ (x : Int) < (x : Int) := by omega
            go_wp2
            go_round
            case rel => exact ⟨k, HKN.out, by rw [HPQ.out.1], by rw [HPQ.out.2], HD.out⟩
            case measure => simp [intOf]; try omega
          · have HD := Lib.hid (HC.out.2.1 h)
            have h' : (y : Int) < (x : Int) := by omega
            have h'' : ¬ (x : Int) < (y : Int) := by omega
            clear h
            go_wp2
            go_ret
            exact ⟨ret_int' (HD.out).symm, drew2 _⟩)
set_option maxHeartbeats 2000000 in
set_option maxRecDepth 100000 in
theorem ucmp_ne (bx bY : Nat) (v1 v2 : Value) (ax ay ex ey : Int) (fx fy : Int) (nx ny : Bool) (w : World) (hx : Blk w bx 82 (fC 2300 ax fx nx v1 ex)) (hy : Blk w bY 82 (fC 2300 ay fy ny v2 ey)) (hne : ex ≠ ey) :
    Calls Tryz.prog 71 #[.pointer (some ⟨bx, 0, none⟩), .pointer (some ⟨bY, 0, none⟩)] w fun e w' => e = .returned (.int .i64 (if ex < ey then -1 else 1)) ∧ ∃ q, w' = w.drewN q := by
  obtain ⟨x0, x1, x2, x3, x4, x5, x6⟩ := sev hx
  obtain ⟨y0, y1, y2, y3, y4, y5, y6⟩ := sev hy
  clear hx hy
  rcases Int.lt_or_le ex ey with h | h
  · rw [if_pos h]
    go_enter Tryz.func71, Tryz.ntmps71
    go_upto_region 2 with fail
    go_region
    all_goals (
      go_wp2
      go_ret
      exact ⟨rfl, drew1 _⟩)
  · have h1 : ¬ ex < ey := by omega
    have h2 : ey < ex := by omega
    rw [if_neg h1]
    clear h hne
    go_enter Tryz.func71, Tryz.ntmps71
    go_upto_region 2 with fail
    go_region
    all_goals (
      go_upto_region 4 with fail
      go_region)
    all_goals (
      go_wp2
      go_ret
      exact ⟨rfl, drew2 _⟩)
theorem ucmp_calls (bx bY K m1 m2 n1 n2 B1 B2 : Nat) (v1 v2 : Value) (ax ay ex ey : Int) (fx fy : Int) (nx ny : Bool) (w : World) (hx : Blk w bx 82 (fC 2300 ax fx nx v1 ex)) (hy : Blk w bY 82 (fC 2300 ay fy ny v2 ey))
    (ox : OwnN w B1 m1 v1) (oy : OwnN w B2 m2 v2) (l1 : bl m1 = 64 * n1) (p1 : 0 < n1) (z1 : 0 ≤ ex - ((64 * n1 : Nat) : Int) + K) (l2 : bl m2 = 64 * n2) (p2 : 0 < n2) (z2 : 0 ≤ ey - ((64 * n2 : Nat) : Int) + K) :
    Calls Tryz.prog 71 #[.pointer (some ⟨bx, 0, none⟩), .pointer (some ⟨bY, 0, none⟩)] w fun e w' => e = .returned (.int .i64 (Int.sign (((m1 * 2 ^ (ex - ((64 * n1 : Nat) : Int) + K).toNat : Nat) : Int) - ((m2 * 2 ^ (ey - ((64 * n2 : Nat) : Int) + K).toNat : Nat) : Int)))) ∧ ∃ q, w' = w.drewN q := by
  by_cases h : ex = ey
  · subst h
    obtain ⟨A1, n1', c1, rfl, _⟩ := ox.shape
    obtain ⟨A2, n2', c2, rfl, _⟩ := oy.shape
    have w1 := ox.words (by intro h; subst h; rw [bl_zero] at l1; omega)
    have w2 := oy.words (by intro h; subst h; rw [bl_zero] at l2; omega)
    obtain rfl : n1' = n1 := by omega
    obtain rfl : n2' = n2 := by omega
    obtain ⟨N, hN⟩ : ∃ N, max n1' n2' = N := ⟨_, rfl⟩
    refine (ucmp_eq bx bY m1 m2 n1' n2' c1 c2 B1 B2 N A1 A2 ax ay ex fx fy nx ny w hx hy ox oy (by omega) (by omega) (by omega)).mono ?_
    rintro e w' ⟨rfl, hq⟩
    refine ⟨?_, hq⟩
    have zN : 0 ≤ ex - ((64 * N : Nat) : Int) + K := by omega
    rw [mag_same (n := n1') (N := N) (by omega) zN, mag_same (n := n2') (N := N) (by omega) zN]
    have hp : 0 < 2 ^ (ex - ((64 * N : Nat) : Int) + K).toNat := Nat.pow_pos (by decide)
    generalize 2 ^ (ex - ((64 * N : Nat) : Int) + K).toNat = P at *
    rw [Int.natCast_mul (_ * m1), Int.natCast_mul (_ * m2), ← Int.sub_mul, Int.sign_mul, Int.sign_eq_one_of_pos (a := (P : Int)) (by omega), Int.mul_one]
  · refine (ucmp_ne bx bY v1 v2 ax ay ex ey fx fy nx ny w hx hy h).mono ?_
    rintro e w' ⟨rfl, hq⟩
    refine ⟨?_, hq⟩
    rcases Int.lt_or_le ex ey with h2 | h2
    · rw [if_pos h2, sg_lt (mag_lt l1 p1 z1 l2 p2 z2 h2)]
    · rw [if_neg (by omega), sg_gt (mag_lt l2 p2 z2 l1 p1 z1 (by omega))]
end Go.Proofs.YtikdhkmcdmnadaaGreatFmt

namespace Go.Proofs.YtikdhkmcdmnadaaGreatFmt
open Go.RowKit
attribute [local go_sem ↓] Go.wp_at_zero Go.wp_at_succ

/-! ### uadd -/
theorem quiet_sum' {P : Program} {f : FuncId} {args : Array Value} {w : World} {a b : Nat} {v : Value}
    (h : Calls P f args (w.drewN (a + b)) fun e w' => e = .returned v ∧ ∃ q, w' = (w.drewN (a + b)).drewN q) : Calls P f args (w.drewN (a + b)) fun e w'' => e = .returned v ∧ ∃ n, w'' = w.drewN (a + n) :=
  h.mono fun _ _ ⟨he, q, hm⟩ => ⟨he, b + q, by rw [hm, drewN_drewN, Nat.add_assoc]⟩
/-- x's and y's mantissas at the lesser exponent -/
def sumM (m1 m2 : Nat) (a b : Int) : Nat := if a < b then m1 + m2 * 2 ^ (b - a).toNat else if b < a then m1 * 2 ^ (a - b).toNat + m2 else m1 + m2
theorem sumM_ne {m1 m2 : Nat} {a b : Int} (h : m1 ≠ 0) : sumM m1 m2 a b ≠ 0 := by
  unfold sumM
  split
  · omega
  · split
    · have := Nat.mul_pos (Nat.pos_of_ne_zero h) (Nat.pow_pos (n := (a - b).toNat) (a := 2) (by decide)); omega
    · omega
/-- two operands, whole -/
structure XY (bx bY : Nat) (cx cy : List Value) (B1 B2 m1 m2 : Nat) (v1 v2 : Value) (w : World) : Prop where
  x : Blk w bx 82 cx
  y : Blk w bY 82 cy
  ox : OwnN w B1 m1 v1
  oy : OwnN w B2 m2 v2
theorem XY.keep {bx bY : Nat} {cx cy : List Value} {B1 B2 m1 m2 : Nat} {v1 v2 : Value} {w w' : World} (h : XY bx bY cx cy B1 B2 m1 m2 v1 v2 w) (hb : Below w.heap.size w w') : XY bx bY cx cy B1 B2 m1 m2 v1 v2 w' :=
  ⟨h.x.below' hb, h.y.below' hb, h.ox.keep hb, h.oy.keep hb⟩
theorem XY.set {bx bY : Nat} {cx cy : List Value} {B1 B2 m1 m2 : Nat} {v1 v2 : Value} {w : World} (h : XY bx bY cx cy B1 B2 m1 m2 v1 v2 w) {bz : Nat} {cz : List Value} (hz : Blk w bz 82 cz) (hnx : bx ≠ bz) (hny : bY ≠ bz) (i : Nat) (u : Value) : XY bx bY cx cy B1 B2 m1 m2 v1 v2 (w.setCell ⟨bz, i, none⟩ u) :=
  ⟨h.x.set_far hnx i u, h.y.set_far hny i u, h.ox.setF hz i u, h.oy.setF hz i u⟩
/-- the sum's float under way: its mantissa S -/
structure UZ (bz : Nat) (neg : Bool) (w0 : World) (S : Nat) (A : Option Addr) (n c : Nat) (w : World) : Prop where
  z : Blk w bz 82 (fC 2300 0 0 neg (.slice A n c) 0)
  o : OwnN w w0.heap.size S (.slice A n c)
  b : Below bz w0 w
  s : w0.heap.size ≤ w.heap.size
theorem UZ.of {bz : Nat} {neg : Bool} {w0 w2 : World} {S A' n' c'} {A : Option Addr} {n c : Nat} (hz : Blk w2 bz 82 (fC 2300 0 0 neg (.slice A' n' c') 0)) (o : OwnN w2 w0.heap.size S (.slice A n c)) (b : Below bz w0 w2) : UZ bz neg w0 S A n c (w2.setCell ⟨bz, 5, none⟩ (.slice A n c)) :=
  ⟨hz.set 5 _, o.setF hz 5 _, b.setCell (p := ⟨bz, 5, none⟩) (Nat.le_refl _) _, by simp [World.setCell, b.size]⟩
end Go.Proofs.YtikdhkmcdmnadaaGreatFmt

namespace Go.Proofs.YtikdhkmcdmnadaaGreatFmt
open Go.RowKit
attribute [local go_sem ↓] Go.wp_at_zero Go.wp_at_succ

/-! ### uadd -/
end Go.Proofs.YtikdhkmcdmnadaaGreatFmt

namespace Go.Proofs.YtikdhkmcdmnadaaGreatFmt
open Go.RowKit
attribute [local go_sem ↓] Go.wp_at_zero Go.wp_at_succ

/-! ### usub -/
def difM (m1 m2 : Nat) (a b : Int) : Nat := if a < b then m1 - m2 * 2 ^ (b - a).toNat else if b < a then m1 * 2 ^ (a - b).toNat - m2 else m1 - m2
theorem OwnN.zero {w : World} {B n c : Nat} {A : Option Addr} (h : OwnN w B 0 (.slice A n c)) : n = 0 := by
  rcases h with ⟨h, _⟩ | ⟨g, Z, n', hs, hg, hb, hz, hn, hl, ht, hv⟩
  · injection h
  · injection hs with hs1 hs2 hs3
    subst hs1 hs2 hs3
    have hxl : (Z.take n).length = n := by rw [List.length_take]; omega
    rcases ht with h | h
    · rw [h] at hxl; exact hxl.symm
    · exfalso
      rcases Nat.eq_zero_or_pos n with h0 | h0
      · subst h0; simp at h
      · have := take_nz (xs := Z.take n) (k := n) (i := (Z.take n).length - 1) (by omega) (by omega) (by omega)
        rw [List.take_take, Nat.min_self] at this
        exact this hv
end Go.Proofs.YtikdhkmcdmnadaaGreatFmt

namespace Go.Proofs.YtikdhkmcdmnadaaGreatFmt
open Go.RowKit
attribute [local go_sem ↓] Go.wp_at_zero Go.wp_at_succ

/-! ### sums of two that are not nought -/
theorem sumM_mag {m1 m2 K : Nat} {a b : Int} (ha : 0 ≤ a + K) (hb : 0 ≤ b + K) : sumM m1 m2 a b * 2 ^ (min a b + K).toNat = m1 * 2 ^ (a + K).toNat + m2 * 2 ^ (b + K).toNat := by
  unfold sumM
  by_cases h1 : a < b
  · rw [if_pos h1, Int.min_eq_left (Int.le_of_lt h1)]; exact add_mag ha (Int.le_of_lt h1)
  · by_cases h2 : b < a
    · rw [if_neg h1, if_pos h2, Int.min_eq_right (Int.le_of_lt h2)]
      have := add_mag (m1 := m2) (m2 := m1) hb (Int.le_of_lt h2)
      rw [Nat.add_comm m2, Nat.add_comm (m2 * _)] at this
      exact this
    · obtain rfl : a = b := by omega
      rw [if_neg h1, if_neg h1, Int.min_self, Nat.add_mul]
theorem le_mag {m1 m2 K : Nat} {a b : Int} (ha : 0 ≤ a + K) (h : a ≤ b) (hle : m2 * 2 ^ (b + K).toNat ≤ m1 * 2 ^ (a + K).toNat) : m2 * 2 ^ (b - a).toNat ≤ m1 := by
  have x : (b + K).toNat = (b - a).toNat + (a + K).toNat := by omega
  rw [x, Nat.pow_add, ← Nat.mul_assoc] at hle
  exact Nat.le_of_mul_le_mul_right hle (Nat.pow_pos (by decide))
theorem le_mag' {m1 m2 K : Nat} {a b : Int} (hb : 0 ≤ b + K) (h : b ≤ a) (hle : m2 * 2 ^ (b + K).toNat ≤ m1 * 2 ^ (a + K).toNat) : m2 ≤ m1 * 2 ^ (a - b).toNat := by
  have x : (a + K).toNat = (a - b).toNat + (b + K).toNat := by omega
  rw [x, Nat.pow_add, ← Nat.mul_assoc] at hle
  exact Nat.le_of_mul_le_mul_right hle (Nat.pow_pos (by decide))
theorem difM_mag {m1 m2 K : Nat} {a b : Int} (ha : 0 ≤ a + K) (hb : 0 ≤ b + K) : difM m1 m2 a b * 2 ^ (min a b + K).toNat = m1 * 2 ^ (a + K).toNat - m2 * 2 ^ (b + K).toNat := by
  unfold difM
  by_cases h1 : a < b
  · rw [if_pos h1, Int.min_eq_left (Int.le_of_lt h1)]; exact sub_mag ha (Int.le_of_lt h1)
  · by_cases h2 : b < a
    · rw [if_neg h1, if_pos h2, Int.min_eq_right (Int.le_of_lt h2)]
      exact sub_mag' hb (Int.le_of_lt h2)
    · obtain rfl : a = b := by omega
      rw [if_neg h1, if_neg h1, Int.min_self, Nat.sub_mul]
theorem difM_le {m1 m2 : Nat} {a b : Int} : difM m1 m2 a b ≤ sumM m1 m2 a b := by
  unfold difM sumM
  split
  · omega
  · split <;> omega
theorem bl_mono {x y : Nat} (h : x ≤ y) : bl x ≤ bl y := bl_le_of_lt (Nat.lt_of_le_of_lt h (bl_lt y))
/-- the value of what uadd and usub leave -/
theorem FVal.fin {w' : World} {K bz S s n B : Nat} {neg : Bool} {v : Value} {E : Int} (hS0 : S ≠ 0) (h1 : bl S + s = 64 * n) (h0 : 0 < n) (h35 : n ≤ 35) (hs : s < 64) (hb : Blk w' bz 82 (fC 2300 0 1 neg v (E + (n : Int) * 64 - s))) (hO : OwnN w' B (S * 2 ^ s) v) (hE : 0 ≤ E + K) (hEb : -15000 ≤ E ∧ E ≤ 10000) :
    FVal w' (K + 64) 35 bz (sg neg (S * 2 ^ (E + K).toNat) * ((2 ^ 64 : Nat) : Int)) := by
  refine ⟨0, 1, neg, v, _, hb, .inr ⟨rfl, B, _, n, hO, by rw [bl_mul_pow hS0, h1], h0, h35, by omega, ?_, by omega⟩⟩
  rw [sg_pow]
  refine congrArg (sg neg) ?_
  have := mag_norm (S := S) (s := s) (K := K) hE (by omega)
  rw [← this]
  congr 3
  omega
end Go.Proofs.YtikdhkmcdmnadaaGreatFmt

namespace Go.Proofs.YtikdhkmcdmnadaaGreatFmt
open Go.RowKit
attribute [local go_sem ↓] Go.wp_at_zero Go.wp_at_succ

/-! ### big.Float.Add of two that are not nought -/
end Go.Proofs.YtikdhkmcdmnadaaGreatFmt

namespace Go.Proofs.YtikdhkmcdmnadaaGreatFmt
open Go.RowKit
attribute [local go_sem ↓] Go.wp_at_zero Go.wp_at_succ

/-! ### ord, Cmp -/
def ordI (form : Int) (neg : Bool) : Int := if form = 0 then 0 else if neg then -1 else 1
theorem ord_calls (bx : Nat) (ax form ex : Int) (neg : Bool) (v : Value) (w : World) (hx : Blk w bx 82 (fC 2300 ax form neg v ex)) (hf : form = 0 ∨ form = 1) :
    Calls Tryz.prog 70 #[.pointer (some ⟨bx, 0, none⟩)] w fun e w' => e = .returned (.int .i64 (ordI form neg)) ∧ w = w' := by
  obtain ⟨x0, x1, x2, x3, x4, x5, x6⟩ := sev hx
  clear hx
  rcases hf with rfl | rfl <;> cases neg
  all_goals (
    go_enter Tryz.func70, Tryz.ntmps70
    go_wp2
    go_ret
    exact ⟨rfl, rfl⟩)
theorem sign_swap (x y : Int) : Int.sign (x - y) = Int.sign (-y - -x) := by rw [show -y - -x = x - y from by omega]
set_option maxHeartbeats 4000000 in
set_option maxRecDepth 100000 in
theorem cmpf_calls (bx bY K N1 N2 : Nat) (X Y : Int) (w : World) (hx : FVal w K N1 bx X) (hy : FVal w K N2 bY Y) :
    Calls Tryz.prog 50 #[.pointer (some ⟨bx, 0, none⟩), .pointer (some ⟨bY, 0, none⟩)] w fun e w' => e = .returned (.int .i64 (Int.sign (X - Y))) ∧ ∃ q, w' = w.drewN q := by
  obtain ⟨ax, fx, nx, vx, ex, bxb, hvx⟩ := hx
  obtain ⟨ay, fy, ny, vy, ey, byb, hvy⟩ := hy
  have HO1 := Lib.hid (fun W (hW : W = w) => ord_calls bx ax fx ex nx vx W (by subst hW; exact bxb) (by rcases hvx with ⟨rfl, _⟩ | ⟨rfl, _⟩; exact .inl rfl; exact .inr rfl))
  have HO2 := Lib.hid (fun W (hW : W = w) => ord_calls bY ay fy ey ny vy W (by subst hW; exact byb) (by rcases hvy with ⟨rfl, _⟩ | ⟨rfl, _⟩; exact .inl rfl; exact .inr rfl))
  have easy : ∀ s : Int, s = Int.sign (X - Y) → ordI fx nx ≠ ordI fy ny → (s = if ordI fx nx < ordI fy ny then -1 else 1) → Calls Tryz.prog 50 #[.pointer (some ⟨bx, 0, none⟩), .pointer (some ⟨bY, 0, none⟩)] w fun e w' => e = .returned (.int .i64 (Int.sign (X - Y))) ∧ ∃ q, w' = w.drewN q := by
    intro s hs hne hlt
    rw [← hs]
    obtain ⟨o1, ho1⟩ : ∃ o, ordI fx nx = o := ⟨_, rfl⟩
    obtain ⟨o2, ho2⟩ : ∃ o, ordI fy ny = o := ⟨_, rfl⟩
    rw [ho1] at HO1 hlt hne
    rw [ho2] at HO2 hlt hne
    rcases Int.lt_or_le o1 o2 with h | h
    · rw [if_pos h] at hlt
      subst hlt
      clear ho1 ho2 hne hs hvx hvy bxb byb
      go_enter Tryz.func50, Tryz.ntmps50
      go_wp2_with fail
      refine (HO1.out _ rfl).mono ?_
      rintro e w' ⟨rfl, rfl⟩
      go_wp2_with fail
      refine (HO2.out _ rfl).mono ?_
      rintro e w' ⟨rfl, rfl⟩
      go_wp2
      go_ret
      exact ⟨rfl, 0, rfl⟩
    · rw [if_neg (by omega)] at hlt
      subst hlt
      have h1 : ¬ o1 < o2 := by omega
      have h2 : o2 < o1 := by omega
      clear ho1 ho2 hne hs hvx hvy bxb byb h
      go_enter Tryz.func50, Tryz.ntmps50
      go_wp2_with fail
      refine (HO1.out _ rfl).mono ?_
      rintro e w' ⟨rfl, rfl⟩
      go_wp2_with fail
      refine (HO2.out _ rfl).mono ?_
      rintro e w' ⟨rfl, rfl⟩
      go_wp2
      go_ret
      exact ⟨rfl, 0, rfl⟩
  have pos : ∀ {K m : Nat} {e : Int} {n : Nat}, bl m = 64 * n → 0 < n → 0 < m * 2 ^ (e - ((64 * n : Nat) : Int) + K).toNat := fun h h2 => Nat.mul_pos (Nat.pos_of_ne_zero (by intro h3; subst h3; rw [bl_zero] at h; omega)) (Nat.pow_pos (by decide))
  rcases hvx with ⟨rfl, rfl⟩ | ⟨rfl, B1, m1, n1, o1, l1, p1, q1, z1, rfl, e1⟩
  · rcases hvy with ⟨rfl, rfl⟩ | ⟨rfl, B2, m2, n2, o2, l2, p2, q2, z2, rfl, e2⟩
    · clear easy
      rw [show ordI ((0 : Nat) : Int) nx = 0 from rfl] at HO1
      rw [show ordI ((0 : Nat) : Int) ny = 0 from rfl] at HO2
      clear bxb byb pos
      go_enter Tryz.func50, Tryz.ntmps50
      go_wp2_with fail
      refine (HO1.out _ rfl).mono ?_
      rintro e w' ⟨rfl, rfl⟩
      go_wp2_with fail
      refine (HO2.out _ rfl).mono ?_
      rintro e w' ⟨rfl, rfl⟩
      go_wp2
      go_ret
      exact ⟨rfl, 0, rfl⟩
    · have hp := pos (K := K) (e := ey) l2 p2
      cases ny
      · exact easy (-1) (Int.sign_eq_neg_one_of_neg (by simp only [sg, Bool.false_eq_true, if_false]; omega)).symm (by unfold ordI; simp) (by unfold ordI; simp)
      · exact easy 1 (Int.sign_eq_one_of_pos (by simp only [sg, if_true]; omega)).symm (by unfold ordI; simp) (by unfold ordI; simp)
  · have hp1 := pos (K := K) (e := ex) l1 p1
    rcases hvy with ⟨rfl, rfl⟩ | ⟨rfl, B2, m2, n2, o2, l2, p2, q2, z2, rfl, e2⟩
    · cases nx
      · exact easy 1 (Int.sign_eq_one_of_pos (by simp only [sg, Bool.false_eq_true, if_false]; omega)).symm (by unfold ordI; simp) (by unfold ordI; simp)
      · exact easy (-1) (Int.sign_eq_neg_one_of_neg (by simp only [sg, if_true]; omega)).symm (by unfold ordI; simp) (by unfold ordI; simp)
    · have hp2 := pos (K := K) (e := ey) l2 p2
      cases nx <;> cases ny
      · have HC := Lib.hid (ucmp_calls bx bY K m1 m2 n1 n2 B1 B2 vx vy ax ay ex ey 1 1 false false w bxb byb o1 o2 l1 p1 z1 l2 p2 z2)
        rw [show ordI ((1 : Nat) : Int) false = 1 from rfl] at HO1 HO2
        obtain ⟨M1, hM1⟩ : ∃ M, m1 * 2 ^ (ex - ((64 * n1 : Nat) : Int) + K).toNat = M := ⟨_, rfl⟩
        obtain ⟨M2, hM2⟩ : ∃ M, m2 * 2 ^ (ey - ((64 * n2 : Nat) : Int) + K).toNat = M := ⟨_, rfl⟩
        rw [hM1, hM2] at HC
        rw [hM1, hM2]
        have hs : Int.sign (sg false M1 - sg false M2) = Int.sign ((M1 : Int) - (M2 : Int)) := rfl
        rw [hs]
        obtain ⟨s, hs'⟩ : ∃ s, Int.sign ((M1 : Int) - (M2 : Int)) = s := ⟨_, rfl⟩
        rw [hs'] at HC ⊢
        clear easy bxb byb pos hM1 hM2 hs hs' hp1 hp2
        go_enter Tryz.func50, Tryz.ntmps50
        go_wp2_with fail
        refine (HO1.out _ rfl).mono ?_
        rintro e w' ⟨rfl, rfl⟩
        go_wp2_with fail
        refine (HO2.out _ rfl).mono ?_
        rintro e w' ⟨rfl, rfl⟩
        go_wp2_with fail
        refine HC.out.mono ?_
        rintro e w' ⟨rfl, q, rfl⟩
        go_wp2
        go_ret
        exact ⟨rfl, q, rfl⟩
      · exact easy 1 (Int.sign_eq_one_of_pos (by simp only [sg, Bool.false_eq_true, if_false, if_true]; omega)).symm (by unfold ordI; simp) (by unfold ordI; simp)
      · exact easy (-1) (Int.sign_eq_neg_one_of_neg (by simp only [sg, Bool.false_eq_true, if_false, if_true]; omega)).symm (by unfold ordI; simp) (by unfold ordI; simp)
      · have HC := Lib.hid (ucmp_calls bY bx K m2 m1 n2 n1 B2 B1 vy vx ay ax ey ex 1 1 true true w byb bxb o2 o1 l2 p2 z2 l1 p1 z1)
        rw [show ordI ((1 : Nat) : Int) true = -1 from rfl] at HO1 HO2
        obtain ⟨M1, hM1⟩ : ∃ M, m1 * 2 ^ (ex - ((64 * n1 : Nat) : Int) + K).toNat = M := ⟨_, rfl⟩
        obtain ⟨M2, hM2⟩ : ∃ M, m2 * 2 ^ (ey - ((64 * n2 : Nat) : Int) + K).toNat = M := ⟨_, rfl⟩
        rw [hM1, hM2] at HC
        rw [hM1, hM2]
        have hs : Int.sign (sg true M1 - sg true M2) = Int.sign ((M2 : Int) - (M1 : Int)) := by
          rw [show sg true M1 - sg true M2 = (M2 : Int) - (M1 : Int) from by simp only [sg, if_true]; omega]
        rw [hs]
        obtain ⟨s, hs'⟩ : ∃ s, Int.sign ((M2 : Int) - (M1 : Int)) = s := ⟨_, rfl⟩
        rw [hs'] at HC ⊢
        clear easy bxb byb pos hM1 hM2 hs hs' hp1 hp2
        go_enter Tryz.func50, Tryz.ntmps50
        go_wp2_with fail
        refine (HO1.out _ rfl).mono ?_
        rintro e w' ⟨rfl, rfl⟩
        go_wp2_with fail
        refine (HO2.out _ rfl).mono ?_
        rintro e w' ⟨rfl, rfl⟩
        go_wp2_with fail
        refine HC.out.mono ?_
        rintro e w' ⟨rfl, q, rfl⟩
        go_wp2
        go_ret
        exact ⟨rfl, q, rfl⟩
end Go.Proofs.YtikdhkmcdmnadaaGreatFmt
