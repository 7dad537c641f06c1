/- Walks and plain laws of this seat's functions, part 5: R2f. -/
import Derived.Test.YtikdhkmcdmnadaaGreatFmtJ04
set_option linter.unusedVariables false
set_option linter.unusedSimpArgs false
namespace Go.Proofs.YtikdhkmcdmnadaaGreatFmt
open Go.RowKit

theorem mRd_setNT {w : World} {base b m : Nat} {cs : List Value} (h : mRd.R w base m cs) (hn : NT w 58 b) (hb : base ≤ b) (i : Nat) (u : Value) : mRd.R (w.setCell ⟨b, i, none⟩ u) base m cs :=
  mRd.keep h (Keeps.set_nt hn hb i u)
theorem sg_diffv {n : Bool} {a b k : Nat} {X Y : Int} (hX : X = sg n (a * 2 ^ k)) (hY : Y = sg (!n) (b * 2 ^ k)) : (b ≤ a → X + Y = sg n ((a - b) * 2 ^ k)) ∧ (a ≤ b → X + Y = sg (!n) ((b - a) * 2 ^ k)) := by
  subst hX hY
  constructor
  · intro h
    have := Nat.mul_le_mul_right (2 ^ k) h
    rw [Nat.sub_mul]
    generalize a * 2 ^ k = p at *
    generalize b * 2 ^ k = q at *
    cases n <;> simp [sg] <;> omega
  · intro h
    have := Nat.mul_le_mul_right (2 ^ k) h
    rw [Nat.sub_mul]
    generalize a * 2 ^ k = p at *
    generalize b * 2 ^ k = q at *
    cases n <;> simp [sg] <;> omega
theorem le_of_scaled {n n' : Bool} {a b k : Nat} {X Y : Int} (hX : X = sg n (a * 2 ^ k)) (hY : Y = sg n' (b * 2 ^ k)) : (X.natAbs ≤ Y.natAbs → a ≤ b) ∧ (X.natAbs < Y.natAbs → a < b) := by
  subst hX hY
  rw [sg_abs, sg_abs]
  have hp : 0 < 2 ^ k := Nat.pow_pos (by decide)
  exact ⟨fun h => Nat.le_of_mul_le_mul_right h hp, fun h => Nat.lt_of_mul_lt_mul_right h⟩
theorem sg_eq_zero {neg : Bool} {m k : Nat} (h : sg neg (m * 2 ^ k) = 0) : m = 0 := by
  have h1 := sg_abs neg (m * 2 ^ k)
  rw [h] at h1
  have := Nat.pow_pos (n := k) (show 0 < 2 by decide)
  rcases Nat.mul_eq_zero.1 h1.symm with h2 | h2
  · exact h2
  · omega
theorem sg_same {nx ny : Bool} {p q : Nat} {X Y : Int} (hX : X = sg nx p) (hY : Y = sg ny q) (h1 : X ≠ 0) (h2 : Y ≠ 0) (h : (0 ≤ X ∧ 0 ≤ Y) ∨ (X ≤ 0 ∧ Y ≤ 0)) : nx = ny := by
  subst hX hY
  cases nx <;> cases ny <;> simp [sg] at * <;> omega
theorem sg_diff {nx ny : Bool} {p q : Nat} {X Y : Int} (hX : X = sg nx p) (hY : Y = sg ny q) (h : (0 < X ∧ Y < 0) ∨ (X < 0 ∧ 0 < Y)) : ny = !nx ∧ (nx == ny) = false := by
  subst hX hY
  cases nx <;> cases ny <;> simp [sg] at * <;> omega
theorem sg_plus {n : Bool} {a b k : Nat} {X Y : Int} (hX : X = sg n (a * 2 ^ k)) (hY : Y = sg n (b * 2 ^ k)) : X + Y = sg n ((a + b) * 2 ^ k) := by
  subst hX hY
  rw [Nat.add_mul]
  cases n <;> simp [sg] <;> omega
set_option maxHeartbeats 2000000 in
theorem plus_num_zl (K base L : Nat) (X Y : Int) (cx cy : List Value) (w : World) (hbase : base ≤ w.heap.size) (hx : (numRd K).R w base X cx) (hy : (numRd K).R w base Y cy)
    (hX : X.natAbs < 2 ^ L) (hY : Y.natAbs < 2 ^ L) (hL : L ≤ 1073741824) (h00 : X = 0) :
    Calls Tryz.prog 52 #[.agg cx.toArray, .agg cy.toArray] w fun r w' => ∃ cs, r = .returned (.agg cs.toArray) ∧ (numRd K).R w' base (X + Y) cs ∧ Below w.heap.size w w' := by
  have HX := Lib.hid hx
  have HY := Lib.hid hy
  obtain ⟨nx, mx, ex, vx, rfl, hmx, hex, hbx, hXX⟩ := hx
  obtain ⟨ny, my, ey, vy, rfl, hmy, hey, hby, rfl⟩ := hy
  have hlev := fun W (h : Below w.heap.size w W) => level_calls K base L ex ey mx my nx ny vx vy W (mRd.below hmx h) (mRd.below hmy h) hex hey hbx hby (hXX ▸ hX) hY hL
  obtain ⟨xs, A, ca, hv, _⟩ := hmx
  obtain ⟨ys, B, cb, hv', _⟩ := hmy
  cases hv
  cases hv'
  generalize hYe : sg ny (my * 2 ^ (ey + K).toNat) = Y at *
  have HYe := Lib.hid hYe
  have HLV := Lib.hid hlev
  have h0 : mx = 0 := sg_eq_zero (hXX ▸ h00)
  clear hYe hlev hex hey hXX
  have HhX := Lib.hid hX
  have HhY := Lib.hid hY
  clear hX hY
  go_enter Tryz.func52, Tryz.ntmps52
  go_wp2_with fail
  refine (HLV.out _ (by repeat (first | exact Below.refl _ _ | apply below_new))).mono ?_
  rintro r w1 ⟨va, vb, e, rfl, ⟨ma, mb, ha, hb, hza, hzb, hzz⟩, hbl⟩
  have HA := Lib.hid ha
  have HB := Lib.hid hb
  obtain ⟨zs, A', ca', hva, _, _, hzt, hzv⟩ := ha
  obtain ⟨zs', B', cb', hvb, _, _, hzt', hzv'⟩ := hb
  cases hva
  cases hvb
  obtain ⟨hc, hf⟩ := bcell hbl
  have hsz : w.heap.size + 2 < w1.heap.size := by have := hbl.size; simp at this; omega
  have hn1 : w.heap.size + 1 < w1.heap.size := by omega
  have hn0 : w.heap.size < w1.heap.size := by omega
  have hn2 : w.heap.size + 1 + 1 < w1.heap.size := by omega
  have hW1 : Below w.heap.size w w1 := below_next (by repeat (first | exact Below.refl _ _ | apply below_new)) hbl
  have hz : ((zs.length : Int) == 0) = true := by
    have := (hzt.nil_iff (B := B32) (by decide)).2 (by rw [hzv]; exact hza.2 h0)
    simp; exact List.length_eq_zero_iff.1 this
  clear hza hzb hzt hzv h0 hzt' hzv' hzz
  go_wp2
  refine bodyPost_ret (v := .agg #[.bool ny, .slice B ys.length cb, .int .i64 ey]) (by simp [results, Tryz.results52, go_sem, hc, hn0, hn1, hn2]) rfl ⟨[.bool ny, .slice B ys.length cb, .int .i64 ey], rfl, ?_, (by repeat (first | exact hW1 | exact Below.refl _ _ | refine Below.setCell ?_ (by simp <;> omega) _ | refine below_new ?_ _))⟩
  rw [h00, Int.zero_add]
  exact (numRd K).below HY.out (by repeat (first | exact hW1 | exact Below.refl _ _ | refine Below.setCell ?_ (by simp <;> omega) _ | refine below_new ?_ _))
set_option maxHeartbeats 2000000 in
theorem plus_num_zr (K base L : Nat) (X Y : Int) (cx cy : List Value) (w : World) (hbase : base ≤ w.heap.size) (hx : (numRd K).R w base X cx) (hy : (numRd K).R w base Y cy)
    (hX : X.natAbs < 2 ^ L) (hY : Y.natAbs < 2 ^ L) (hL : L ≤ 1073741824) (hn00 : X ≠ 0) (h00 : Y = 0) :
    Calls Tryz.prog 52 #[.agg cx.toArray, .agg cy.toArray] w fun r w' => ∃ cs, r = .returned (.agg cs.toArray) ∧ (numRd K).R w' base (X + Y) cs ∧ Below w.heap.size w w' := by
  have HX := Lib.hid hx
  have HY := Lib.hid hy
  obtain ⟨nx, mx, ex, vx, rfl, hmx, hex, hbx, hXX⟩ := hx
  obtain ⟨ny, my, ey, vy, rfl, hmy, hey, hby, hYY⟩ := hy
  have hlev := fun W (h : Below w.heap.size w W) => level_calls K base L ex ey mx my nx ny vx vy W (mRd.below hmx h) (mRd.below hmy h) hex hey hbx hby (hXX ▸ hX) (hYY ▸ hY) hL
  obtain ⟨xs, A, ca, hv, _⟩ := hmx
  obtain ⟨ys, B, cb, hv', _⟩ := hmy
  cases hv
  cases hv'
  have HLV := Lib.hid hlev
  have h0 : my = 0 := sg_eq_zero (hYY ▸ h00)
  have h1 : mx ≠ 0 := fun h => hn00 (by rw [hXX, h, Nat.zero_mul, sg_zero])
  clear hlev hex hey hXX hYY hn00
  have HhX := Lib.hid hX
  have HhY := Lib.hid hY
  clear hX hY
  go_enter Tryz.func52, Tryz.ntmps52
  go_wp2_with fail
  refine (HLV.out _ (by repeat (first | exact Below.refl _ _ | apply below_new))).mono ?_
  rintro r w1 ⟨va, vb, e, rfl, ⟨ma, mb, ha, hb, hza, hzb, hzz⟩, hbl⟩
  have HA := Lib.hid ha
  have HB := Lib.hid hb
  obtain ⟨zs, A', ca', hva, _, _, hzt, hzv⟩ := ha
  obtain ⟨zs', B', cb', hvb, _, _, hzt', hzv'⟩ := hb
  cases hva
  cases hvb
  obtain ⟨hc, hf⟩ := bcell hbl
  have hsz : w.heap.size + 2 < w1.heap.size := by have := hbl.size; simp at this; omega
  have hn1 : w.heap.size + 1 < w1.heap.size := by omega
  have hn0 : w.heap.size < w1.heap.size := by omega
  have hn2 : w.heap.size + 1 + 1 < w1.heap.size := by omega
  have hW1 : Below w.heap.size w w1 := below_next (by repeat (first | exact Below.refl _ _ | apply below_new)) hbl
  have hz : ((zs.length : Int) == 0) = false := by
    have := (hzt.nil_iff (B := B32) (by decide))
    rw [hzv] at this
    simp; exact fun h => h1 (hza.1 (this.1 (by rw [h]; rfl)))
  have hz' : ((zs'.length : Int) == 0) = true := by
    have := (hzt'.nil_iff (B := B32) (by decide)).2 (by rw [hzv']; exact hzb.2 h0)
    simp; exact List.length_eq_zero_iff.1 this
  clear hza hzb hzt hzv h0 h1 hzt' hzv' hzz
  go_wp2
  refine bodyPost_ret (v := .agg #[.bool nx, .slice A xs.length ca, .int .i64 ex]) (by simp [results, Tryz.results52, go_sem, hc, hn0, hn1, hn2]) rfl ⟨[.bool nx, .slice A xs.length ca, .int .i64 ex], rfl, ?_, (by repeat (first | exact hW1 | exact Below.refl _ _ | refine Below.setCell ?_ (by simp <;> omega) _ | refine below_new ?_ _))⟩
  rw [h00, Int.add_zero]
  exact (numRd K).below HX.out (by repeat (first | exact hW1 | exact Below.refl _ _ | refine Below.setCell ?_ (by simp <;> omega) _ | refine below_new ?_ _))
set_option maxHeartbeats 2000000 in
theorem plus_num_same (K base L : Nat) (X Y : Int) (cx cy : List Value) (w : World) (hbase : base ≤ w.heap.size) (hx : (numRd K).R w base X cx) (hy : (numRd K).R w base Y cy)
    (hX : X.natAbs < 2 ^ L) (hY : Y.natAbs < 2 ^ L) (hL : L ≤ 1073741824) (hK : K ≤ 1073741824) (hn00 : X ≠ 0) (hn01 : Y ≠ 0) (hs : (0 ≤ X ∧ 0 ≤ Y) ∨ (X ≤ 0 ∧ Y ≤ 0)) :
    Calls Tryz.prog 52 #[.agg cx.toArray, .agg cy.toArray] w fun r w' => ∃ cs, r = .returned (.agg cs.toArray) ∧ (numRd K).R w' base (X + Y) cs ∧ Below w.heap.size w w' := by
  have HX := Lib.hid hx
  have HY := Lib.hid hy
  obtain ⟨nx, mx, ex, vx, rfl, hmx, hex, hbx, hXX⟩ := hx
  obtain ⟨ny, my, ey, vy, rfl, hmy, hey, hby, hYY⟩ := hy
  have hlev := fun W (h : Below w.heap.size w W) => level_calls K base L ex ey mx my nx ny vx vy W (mRd.below hmx h) (mRd.below hmy h) hex hey hbx hby (hXX ▸ hX) (hYY ▸ hY) hL
  obtain ⟨xs, A, ca, hv, _⟩ := hmx
  obtain ⟨ys, B, cb, hv', _⟩ := hmy
  cases hv
  cases hv'
  have HLV := Lib.hid hlev
  have h2 : my ≠ 0 := fun h => hn01 (by rw [hYY, h, Nat.zero_mul, sg_zero])
  have h1 : mx ≠ 0 := fun h => hn00 (by rw [hXX, h, Nat.zero_mul, sg_zero])
  
  obtain rfl : nx = ny := sg_same hXX hYY hn00 hn01 hs
  have hbn : (nx == nx) = true := by simp
  have HXX := Lib.hid hXX
  have HYY := Lib.hid hYY
  clear hlev hex hey hXX hYY hn00 hn01
  have HhX := Lib.hid hX
  have HhY := Lib.hid hY
  clear hX hY
  go_enter Tryz.func52, Tryz.ntmps52
  go_wp2_with fail
  refine (HLV.out _ (by repeat (first | exact Below.refl _ _ | apply below_new))).mono ?_
  rintro r w1 ⟨va, vb, e, rfl, ⟨ma, mb, ha, hb, hza, hzb, hzz⟩, hbl⟩
  have HA := Lib.hid ha
  have HB := Lib.hid hb
  obtain ⟨zs, A', ca', hva, _, hra, hzt, hzv⟩ := ha
  obtain ⟨zs', B', cb', hvb, _, hrb, hzt', hzv'⟩ := hb
  cases hva
  cases hvb
  obtain ⟨hc, hf⟩ := bcell hbl
  have hsz : w.heap.size + 2 < w1.heap.size := by have := hbl.size; simp at this; omega
  have hn1 : w.heap.size + 1 < w1.heap.size := by omega
  have hn0 : w.heap.size < w1.heap.size := by omega
  have hn2 : w.heap.size + 1 + 1 < w1.heap.size := by omega
  have hW1 : Below w.heap.size w w1 := below_next (by repeat (first | exact Below.refl _ _ | apply below_new)) hbl
  obtain ⟨hz1, hz2, hz3, hz4⟩ := hzz h1 h2
  have hma : ma ≠ 0 := fun h => h1 (hza.1 h)
  have hmb : mb ≠ 0 := fun h => h2 (hzb.1 h)
  have hlz := man_len hzt hzv (man_lt ((HXX.out.trans hz3) ▸ HhX.out))
  have hlz' := man_len hzt' hzv' (man_lt ((HYY.out.trans hz4) ▸ HhY.out))
  have hz : ((zs.length : Int) == 0) = false := by
    have := (hzt.nil_iff (B := B32) (by decide))
    rw [hzv] at this
    simp; exact fun h => hma (this.1 (by rw [h]; rfl))
  have hz' : ((zs'.length : Int) == 0) = false := by
    have := (hzt'.nil_iff (B := B32) (by decide))
    rw [hzv'] at this
    simp; exact fun h => hmb (this.1 (by rw [h]; rfl))
  have H3 := Lib.hid (HXX.out.trans hz3)
  have H4 := Lib.hid (HYY.out.trans hz4)
  have H1 := Lib.hid hz1
  have HV := Lib.hid hzv
  have HV' := Lib.hid hzv'
  clear hza hzb hzt hzt' hzv hzv' hzz hz3 hz4 hz1 h1 h2 hs
  have hT1 : NT w1 58 (w.heap.size + 1 + 1) := NT.below (by have := NT.new ((w.alloc (.cells #[.bool nx, .slice A xs.length ca, .int .i64 ex] 38)).alloc (.cells #[.bool nx, .slice B ys.length cb, .int .i64 ey] 38)) #[.bool false, .slice none 0 0, .int .i64 0] 38 58 (by decide); simpa using this) hbl
  go_wp2_with fail
  refine (plus_calls A' B' _ _ ca' cb' 58 58 base base base zs zs' _ rfl rfl (hra.below (by repeat (first | exact Below.refl _ _ | apply below_new))) (hrb.below (by repeat (first | exact Below.refl _ _ | apply below_new))) (by omega) (by omega)).mono ?_
  rintro r w2 ⟨v, rfl, hm, hb2⟩
  have HM := Lib.hid hm
  obtain ⟨ts, C, cc, hv, _, _, htt, htv⟩ := hm
  cases hv
  have hl : ((ts.length : Int) == 0) = false := by
    have := htt.nil_iff (B := B32) (by decide)
    rw [htv, HV.out, HV'.out] at this
    simp; intro h; rw [h] at this; simp at this; omega
  clear htt htv hma hmb
  obtain ⟨hc2, hf2⟩ := bcell hb2
  have hsz2 : w1.heap.size < w2.heap.size := by have := hb2.size; simp at this; omega
  have hm1 : w.heap.size + 1 < w2.heap.size := by omega
  have hm0 : w.heap.size < w2.heap.size := by omega
  have hm2 : w.heap.size + 1 + 1 < w2.heap.size := by omega
  have hk1 : w.heap.size + 1 < w1.heap.size + 1 := by omega
  have hk0 : w.heap.size < w1.heap.size + 1 := by omega
  have hk2 : w.heap.size + 1 + 1 < w1.heap.size + 1 := by omega
  have hT2 : NT w2 58 w1.heap.size := (NT.new w1 _ _ _ (by decide)).below hb2
  have hT3 : NT w2 58 (w.heap.size + 1 + 1) := (hT1.alloc _).below hb2
  have hW2 : Below w.heap.size w w2 := below_next (below_new hW1 _) hb2
  go_wp2
  refine bodyPost_ret (v := .agg #[.bool nx, .slice C ts.length cc, .int .i64 e]) (by simp [results, Tryz.results52, go_sem, hc, hn0, hn1, hn2, hc2, hm0, hm1, hm2, hk0, hk1, hk2]) rfl ⟨[.bool nx, .slice C ts.length cc, .int .i64 e], rfl, ?_, (by repeat (first | exact hW2 | refine Below.setCell ?_ (by simp <;> omega) _))⟩
  refine ⟨nx, (val B32 zs + val B32 zs'), e, _, rfl, (by repeat (first | exact HM.out | refine mRd_setNT ?_ (by repeat (first | exact hT2 | exact hT3 | apply NT.set)) (by omega) _ _)), fun _ => H1.out, ⟨by have := H1.out; omega, hz2⟩, ?_⟩
  rw [HV.out, HV'.out]; exact sg_plus H3.out H4.out
set_option maxHeartbeats 2000000 in
theorem plus_num_gt (K base L : Nat) (X Y : Int) (cx cy : List Value) (w : World) (hbase : base ≤ w.heap.size) (hx : (numRd K).R w base X cx) (hy : (numRd K).R w base Y cy)
    (hX : X.natAbs < 2 ^ L) (hY : Y.natAbs < 2 ^ L) (hL : L ≤ 1073741824) (hK : K ≤ 1073741824) (hn00 : X ≠ 0) (hn01 : Y ≠ 0) (hs : (0 < X ∧ Y < 0) ∨ (X < 0 ∧ 0 < Y)) (hge : Y.natAbs < X.natAbs) :
    Calls Tryz.prog 52 #[.agg cx.toArray, .agg cy.toArray] w fun r w' => ∃ cs, r = .returned (.agg cs.toArray) ∧ (numRd K).R w' base (X + Y) cs ∧ Below w.heap.size w w' := by
  have HX := Lib.hid hx
  have HY := Lib.hid hy
  obtain ⟨nx, mx, ex, vx, rfl, hmx, hex, hbx, hXX⟩ := hx
  obtain ⟨ny, my, ey, vy, rfl, hmy, hey, hby, hYY⟩ := hy
  have hlev := fun W (h : Below w.heap.size w W) => level_calls K base L ex ey mx my nx ny vx vy W (mRd.below hmx h) (mRd.below hmy h) hex hey hbx hby (hXX ▸ hX) (hYY ▸ hY) hL
  obtain ⟨xs, A, ca, hv, _⟩ := hmx
  obtain ⟨ys, B, cb, hv', _⟩ := hmy
  cases hv
  cases hv'
  have HLV := Lib.hid hlev
  have h2 : my ≠ 0 := fun h => hn01 (by rw [hYY, h, Nat.zero_mul, sg_zero])
  have h1 : mx ≠ 0 := fun h => hn00 (by rw [hXX, h, Nat.zero_mul, sg_zero])
  
  obtain ⟨rfl, hbn⟩ := sg_diff hXX hYY hs
  have HXX := Lib.hid hXX
  have HYY := Lib.hid hYY
  clear hlev hex hey hXX hYY hn00 hn01
  have HhX := Lib.hid hX
  have HhY := Lib.hid hY
  clear hX hY
  go_enter Tryz.func52, Tryz.ntmps52
  go_wp2_with fail
  refine (HLV.out _ (by repeat (first | exact Below.refl _ _ | apply below_new))).mono ?_
  rintro r w1 ⟨va, vb, e, rfl, ⟨ma, mb, ha, hb, hza, hzb, hzz⟩, hbl⟩
  have HA := Lib.hid ha
  have HB := Lib.hid hb
  obtain ⟨zs, A', ca', hva, _, hra, hzt, hzv⟩ := ha
  obtain ⟨zs', B', cb', hvb, _, hrb, hzt', hzv'⟩ := hb
  cases hva
  cases hvb
  obtain ⟨hc, hf⟩ := bcell hbl
  have hsz : w.heap.size + 2 < w1.heap.size := by have := hbl.size; simp at this; omega
  have hn1 : w.heap.size + 1 < w1.heap.size := by omega
  have hn0 : w.heap.size < w1.heap.size := by omega
  have hn2 : w.heap.size + 1 + 1 < w1.heap.size := by omega
  have hW1 : Below w.heap.size w w1 := below_next (by repeat (first | exact Below.refl _ _ | apply below_new)) hbl
  obtain ⟨hz1, hz2, hz3, hz4⟩ := hzz h1 h2
  have hma : ma ≠ 0 := fun h => h1 (hza.1 h)
  have hmb : mb ≠ 0 := fun h => h2 (hzb.1 h)
  have hlz := man_len hzt hzv (man_lt ((HXX.out.trans hz3) ▸ HhX.out))
  have hlz' := man_len hzt' hzv' (man_lt ((HYY.out.trans hz4) ▸ HhY.out))
  have hz : ((zs.length : Int) == 0) = false := by
    have := (hzt.nil_iff (B := B32) (by decide))
    rw [hzv] at this
    simp; exact fun h => hma (this.1 (by rw [h]; rfl))
  have hz' : ((zs'.length : Int) == 0) = false := by
    have := (hzt'.nil_iff (B := B32) (by decide))
    rw [hzv'] at this
    simp; exact fun h => hmb (this.1 (by rw [h]; rfl))
  have H3 := Lib.hid (HXX.out.trans hz3)
  have H4 := Lib.hid (HYY.out.trans hz4)
  have H1 := Lib.hid hz1
  have HV := Lib.hid hzv
  have HV' := Lib.hid hzv'
  have hord := (le_of_scaled H4.out H3.out).2 hge
  have hcp : 0 ≤ cmpN (val B32 zs) (val B32 zs') := by rw [HV.out, HV'.out, cmpN_gt hord]; decide
  have hll : zs'.length ≤ zs.length := Nat.le_of_not_lt fun h => by
    have := val_lt_of_len (B := B32) (by decide) (u32bd hra) hzt' h
    rw [hzv', hzv] at this; omega
  have HORD : Hid (val B32 zs' ≤ val B32 zs) := by simp only [Hid, HV.out, HV'.out]; omega
  have HOR := Lib.hid hord
  have HT := Lib.hid hzt
  have HT' := Lib.hid hzt'
  have hT1 : NT w1 58 (w.heap.size + 1 + 1) := NT.below (by have := NT.new ((w.alloc (.cells #[.bool nx, .slice A xs.length ca, .int .i64 ex] 38)).alloc (.cells #[.bool !nx, .slice B ys.length cb, .int .i64 ey] 38)) #[.bool false, .slice none 0 0, .int .i64 0] 38 58 (by decide); simpa using this) hbl
  clear hza hzb hzt hzt' hzv hzv' hzz hz3 hz4 hz1 h1 h2 hs hma hmb hord
  generalize hcq : cmpN (val B32 zs) (val B32 zs') = cq at hcp
  have HCQ := Lib.hid hcq
  clear hcq
  go_wp2_with fail
  refine (cmp_calls A' B' _ _ ca' cb' 58 58 base base zs zs' _ rfl rfl (hra.below (by repeat (first | exact Below.refl _ _ | apply below_new))) (hrb.below (by repeat (first | exact Below.refl _ _ | apply below_new))) (by omega) (by omega) HT.out HT'.out).mono ?_
  rintro r w9 ⟨rfl, q, rfl⟩
  rw [HCQ.out]
  go_wp2_with fail
  refine (minus_calls A' B' _ _ ca' cb' 58 58 base base base zs zs' _ rfl rfl (hra.below (by repeat (first | exact Below.refl _ _ | apply below_drewN | apply below_new))) (hrb.below (by repeat (first | exact Below.refl _ _ | apply below_drewN | apply below_new))) hll (by omega) HORD.out).mono ?_
  rintro r w2 ⟨v, rfl, hm, hb2⟩
  have HM := Lib.hid hm
  obtain ⟨ts, C, cc, hv, _, _, htt, htv⟩ := hm
  cases hv
  have hl : ((ts.length : Int) == 0) = false := by
    have hnn := htt.nil_iff (B := B32) (by decide)
    rw [htv, HV.out, HV'.out] at hnn
    have hor := HOR.out
    simp; intro h; have := hnn.1 (by rw [h]; rfl); omega
  clear htt htv
  obtain ⟨hc2, hf2⟩ := bcell hb2
  have hsz2 : w1.heap.size < w2.heap.size := by have := hb2.size; simp [World.drewN] at this; omega
  have hm1 : w.heap.size + 1 < w2.heap.size := by omega
  have hm0 : w.heap.size < w2.heap.size := by omega
  have hm2 : w.heap.size + 1 + 1 < w2.heap.size := by omega
  have hk1 : w.heap.size + 1 < w1.heap.size + 1 := by omega
  have hk0 : w.heap.size < w1.heap.size + 1 := by omega
  have hk2 : w.heap.size + 1 + 1 < w1.heap.size + 1 := by omega
  have hB2 : Below (w1.alloc (Obj.cells #[Value.bool nx, Value.slice none 0 0, Value.int IntKind.i64 e] 38)).heap.size (w1.alloc (Obj.cells #[Value.bool nx, Value.slice none 0 0, Value.int IntKind.i64 e] 38)) w2 := below_next (below_drewN (Below.refl _ _) q) hb2
  have hT2 : NT w2 58 w1.heap.size := (NT.new w1 _ _ _ (by decide)).below hB2
  have hT3 : NT w2 58 (w.heap.size + 1 + 1) := (hT1.alloc _).below hB2
  have hW2 : Below w.heap.size w w2 := below_next (below_new hW1 _) hB2
  go_wp2
  refine bodyPost_ret (v := .agg #[.bool nx, .slice C ts.length cc, .int .i64 e]) (by simp [results, Tryz.results52, go_sem, hc, hn0, hn1, hn2, hc2, hm0, hm1, hm2, hk0, hk1, hk2]) rfl ⟨[.bool nx, .slice C ts.length cc, .int .i64 e], rfl, ?_, (by repeat (first | exact hW2 | refine Below.setCell ?_ (by simp <;> omega) _))⟩
  refine ⟨nx, (val B32 zs - val B32 zs'), e, _, rfl, (by repeat (first | exact HM.out | refine mRd_setNT ?_ (by repeat (first | exact hT2 | exact hT3 | apply NT.set)) (by omega) _ _)), fun _ => H1.out, ⟨by have := H1.out; omega, hz2⟩, ?_⟩
  rw [HV.out, HV'.out]; exact (sg_diffv H3.out H4.out).1 (by have := HOR.out; omega)
set_option maxHeartbeats 2000000 in
theorem plus_num_eq (K base L : Nat) (X Y : Int) (cx cy : List Value) (w : World) (hbase : base ≤ w.heap.size) (hx : (numRd K).R w base X cx) (hy : (numRd K).R w base Y cy)
    (hX : X.natAbs < 2 ^ L) (hY : Y.natAbs < 2 ^ L) (hL : L ≤ 1073741824) (hK : K ≤ 1073741824) (hn00 : X ≠ 0) (hn01 : Y ≠ 0) (hs : (0 < X ∧ Y < 0) ∨ (X < 0 ∧ 0 < Y)) (hge : Y.natAbs = X.natAbs) :
    Calls Tryz.prog 52 #[.agg cx.toArray, .agg cy.toArray] w fun r w' => ∃ cs, r = .returned (.agg cs.toArray) ∧ (numRd K).R w' base (X + Y) cs ∧ Below w.heap.size w w' := by
  have HX := Lib.hid hx
  have HY := Lib.hid hy
  obtain ⟨nx, mx, ex, vx, rfl, hmx, hex, hbx, hXX⟩ := hx
  obtain ⟨ny, my, ey, vy, rfl, hmy, hey, hby, hYY⟩ := hy
  have hlev := fun W (h : Below w.heap.size w W) => level_calls K base L ex ey mx my nx ny vx vy W (mRd.below hmx h) (mRd.below hmy h) hex hey hbx hby (hXX ▸ hX) (hYY ▸ hY) hL
  obtain ⟨xs, A, ca, hv, _⟩ := hmx
  obtain ⟨ys, B, cb, hv', _⟩ := hmy
  cases hv
  cases hv'
  have HLV := Lib.hid hlev
  have h2 : my ≠ 0 := fun h => hn01 (by rw [hYY, h, Nat.zero_mul, sg_zero])
  have h1 : mx ≠ 0 := fun h => hn00 (by rw [hXX, h, Nat.zero_mul, sg_zero])
  
  obtain ⟨rfl, hbn⟩ := sg_diff hXX hYY hs
  have HXX := Lib.hid hXX
  have HYY := Lib.hid hYY
  clear hlev hex hey hXX hYY hn00 hn01
  have HhX := Lib.hid hX
  have HhY := Lib.hid hY
  clear hX hY
  go_enter Tryz.func52, Tryz.ntmps52
  go_wp2_with fail
  refine (HLV.out _ (by repeat (first | exact Below.refl _ _ | apply below_new))).mono ?_
  rintro r w1 ⟨va, vb, e, rfl, ⟨ma, mb, ha, hb, hza, hzb, hzz⟩, hbl⟩
  have HA := Lib.hid ha
  have HB := Lib.hid hb
  obtain ⟨zs, A', ca', hva, _, hra, hzt, hzv⟩ := ha
  obtain ⟨zs', B', cb', hvb, _, hrb, hzt', hzv'⟩ := hb
  cases hva
  cases hvb
  obtain ⟨hc, hf⟩ := bcell hbl
  have hsz : w.heap.size + 2 < w1.heap.size := by have := hbl.size; simp at this; omega
  have hn1 : w.heap.size + 1 < w1.heap.size := by omega
  have hn0 : w.heap.size < w1.heap.size := by omega
  have hn2 : w.heap.size + 1 + 1 < w1.heap.size := by omega
  have hW1 : Below w.heap.size w w1 := below_next (by repeat (first | exact Below.refl _ _ | apply below_new)) hbl
  obtain ⟨hz1, hz2, hz3, hz4⟩ := hzz h1 h2
  have hma : ma ≠ 0 := fun h => h1 (hza.1 h)
  have hmb : mb ≠ 0 := fun h => h2 (hzb.1 h)
  have hlz := man_len hzt hzv (man_lt ((HXX.out.trans hz3) ▸ HhX.out))
  have hlz' := man_len hzt' hzv' (man_lt ((HYY.out.trans hz4) ▸ HhY.out))
  have hz : ((zs.length : Int) == 0) = false := by
    have := (hzt.nil_iff (B := B32) (by decide))
    rw [hzv] at this
    simp; exact fun h => hma (this.1 (by rw [h]; rfl))
  have hz' : ((zs'.length : Int) == 0) = false := by
    have := (hzt'.nil_iff (B := B32) (by decide))
    rw [hzv'] at this
    simp; exact fun h => hmb (this.1 (by rw [h]; rfl))
  have H3 := Lib.hid (HXX.out.trans hz3)
  have H4 := Lib.hid (HYY.out.trans hz4)
  have H1 := Lib.hid hz1
  have HV := Lib.hid hzv
  have HV' := Lib.hid hzv'
  have hord : ma = mb := Nat.le_antisymm ((le_of_scaled H3.out H4.out).1 (by omega)) ((le_of_scaled H4.out H3.out).1 (by omega))
  have hcp : 0 ≤ cmpN (val B32 zs) (val B32 zs') := by rw [HV.out, HV'.out, hord, cmpN_eq]; decide
  have hll : zs'.length ≤ zs.length := Nat.le_of_not_lt fun h => by
    have := val_lt_of_len (B := B32) (by decide) (u32bd hra) hzt' h
    rw [hzv', hzv] at this; omega
  have HORD : Hid (val B32 zs' ≤ val B32 zs) := by simp only [Hid, HV.out, HV'.out]; omega
  have HOR := Lib.hid hord
  have HT := Lib.hid hzt
  have HT' := Lib.hid hzt'
  have hT1 : NT w1 58 (w.heap.size + 1 + 1) := NT.below (by have := NT.new ((w.alloc (.cells #[.bool nx, .slice A xs.length ca, .int .i64 ex] 38)).alloc (.cells #[.bool !nx, .slice B ys.length cb, .int .i64 ey] 38)) #[.bool false, .slice none 0 0, .int .i64 0] 38 58 (by decide); simpa using this) hbl
  clear hza hzb hzt hzt' hzv hzv' hzz hz3 hz4 hz1 h1 h2 hs hma hmb hord
  generalize hcq : cmpN (val B32 zs) (val B32 zs') = cq at hcp
  have HCQ := Lib.hid hcq
  clear hcq
  go_wp2_with fail
  refine (cmp_calls A' B' _ _ ca' cb' 58 58 base base zs zs' _ rfl rfl (hra.below (by repeat (first | exact Below.refl _ _ | apply below_new))) (hrb.below (by repeat (first | exact Below.refl _ _ | apply below_new))) (by omega) (by omega) HT.out HT'.out).mono ?_
  rintro r w9 ⟨rfl, q, rfl⟩
  rw [HCQ.out]
  go_wp2_with fail
  refine (minus_calls A' B' _ _ ca' cb' 58 58 base base base zs zs' _ rfl rfl (hra.below (by repeat (first | exact Below.refl _ _ | apply below_drewN | apply below_new))) (hrb.below (by repeat (first | exact Below.refl _ _ | apply below_drewN | apply below_new))) hll (by omega) HORD.out).mono ?_
  rintro r w2 ⟨v, rfl, hm, hb2⟩
  have HM := Lib.hid hm
  obtain ⟨ts, C, cc, hv, _, _, htt, htv⟩ := hm
  cases hv
  have hl : ((ts.length : Int) == 0) = true := by
    have hnn := htt.nil_iff (B := B32) (by decide)
    rw [htv, HV.out, HV'.out] at hnn
    have hor := HOR.out
    simp; exact List.length_eq_zero_iff.1 (hnn.2 (by omega))
  clear htt htv
  obtain ⟨hc2, hf2⟩ := bcell hb2
  have hsz2 : w1.heap.size < w2.heap.size := by have := hb2.size; simp [World.drewN] at this; omega
  have hm1 : w.heap.size + 1 < w2.heap.size := by omega
  have hm0 : w.heap.size < w2.heap.size := by omega
  have hm2 : w.heap.size + 1 + 1 < w2.heap.size := by omega
  have hk1 : w.heap.size + 1 < w1.heap.size + 1 := by omega
  have hk0 : w.heap.size < w1.heap.size + 1 := by omega
  have hk2 : w.heap.size + 1 + 1 < w1.heap.size + 1 := by omega
  have hB2 : Below (w1.alloc (Obj.cells #[Value.bool nx, Value.slice none 0 0, Value.int IntKind.i64 e] 38)).heap.size (w1.alloc (Obj.cells #[Value.bool nx, Value.slice none 0 0, Value.int IntKind.i64 e] 38)) w2 := below_next (below_drewN (Below.refl _ _) q) hb2
  have hT2 : NT w2 58 w1.heap.size := (NT.new w1 _ _ _ (by decide)).below hB2
  have hT3 : NT w2 58 (w.heap.size + 1 + 1) := (hT1.alloc _).below hB2
  have hW2 : Below w.heap.size w w2 := below_next (below_new hW1 _) hB2
  go_wp2
  refine bodyPost_ret (v := .agg #[.bool false, .slice none 0 0, .int .i64 0]) (by simp [results, Tryz.results52, go_sem, hc, hn0, hn1, hn2, hc2, hm0, hm1, hm2, hk0, hk1, hk2]) rfl ⟨[.bool false, .slice none 0 0, .int .i64 0], rfl, ?_, (by repeat (first | exact hW2 | refine Below.setCell ?_ (by simp <;> omega) _))⟩
  refine ⟨false, 0, 0, _, rfl, mRd_nil _ _ _ _, fun h => absurd rfl h, by omega, ?_⟩
  rw [Nat.zero_mul, sg_zero]; have := (sg_diffv H3.out H4.out).1 (by have := HOR.out; omega); rw [this, HOR.out, Nat.sub_self, Nat.zero_mul, sg_zero]
set_option maxHeartbeats 2000000 in
theorem plus_num_lt (K base L : Nat) (X Y : Int) (cx cy : List Value) (w : World) (hbase : base ≤ w.heap.size) (hx : (numRd K).R w base X cx) (hy : (numRd K).R w base Y cy)
    (hX : X.natAbs < 2 ^ L) (hY : Y.natAbs < 2 ^ L) (hL : L ≤ 1073741824) (hK : K ≤ 1073741824) (hn00 : X ≠ 0) (hn01 : Y ≠ 0) (hs : (0 < X ∧ Y < 0) ∨ (X < 0 ∧ 0 < Y)) (hge : X.natAbs < Y.natAbs) :
    Calls Tryz.prog 52 #[.agg cx.toArray, .agg cy.toArray] w fun r w' => ∃ cs, r = .returned (.agg cs.toArray) ∧ (numRd K).R w' base (X + Y) cs ∧ Below w.heap.size w w' := by
  have HX := Lib.hid hx
  have HY := Lib.hid hy
  obtain ⟨nx, mx, ex, vx, rfl, hmx, hex, hbx, hXX⟩ := hx
  obtain ⟨ny, my, ey, vy, rfl, hmy, hey, hby, hYY⟩ := hy
  have hlev := fun W (h : Below w.heap.size w W) => level_calls K base L ex ey mx my nx ny vx vy W (mRd.below hmx h) (mRd.below hmy h) hex hey hbx hby (hXX ▸ hX) (hYY ▸ hY) hL
  obtain ⟨xs, A, ca, hv, _⟩ := hmx
  obtain ⟨ys, B, cb, hv', _⟩ := hmy
  cases hv
  cases hv'
  have HLV := Lib.hid hlev
  have h2 : my ≠ 0 := fun h => hn01 (by rw [hYY, h, Nat.zero_mul, sg_zero])
  have h1 : mx ≠ 0 := fun h => hn00 (by rw [hXX, h, Nat.zero_mul, sg_zero])
  
  obtain ⟨rfl, hbn⟩ := sg_diff hXX hYY hs
  have HXX := Lib.hid hXX
  have HYY := Lib.hid hYY
  clear hlev hex hey hXX hYY hn00 hn01
  have HhX := Lib.hid hX
  have HhY := Lib.hid hY
  clear hX hY
  go_enter Tryz.func52, Tryz.ntmps52
  go_wp2_with fail
  refine (HLV.out _ (by repeat (first | exact Below.refl _ _ | apply below_new))).mono ?_
  rintro r w1 ⟨va, vb, e, rfl, ⟨ma, mb, ha, hb, hza, hzb, hzz⟩, hbl⟩
  have HA := Lib.hid ha
  have HB := Lib.hid hb
  obtain ⟨zs, A', ca', hva, _, hra, hzt, hzv⟩ := ha
  obtain ⟨zs', B', cb', hvb, _, hrb, hzt', hzv'⟩ := hb
  cases hva
  cases hvb
  obtain ⟨hc, hf⟩ := bcell hbl
  have hsz : w.heap.size + 2 < w1.heap.size := by have := hbl.size; simp at this; omega
  have hn1 : w.heap.size + 1 < w1.heap.size := by omega
  have hn0 : w.heap.size < w1.heap.size := by omega
  have hn2 : w.heap.size + 1 + 1 < w1.heap.size := by omega
  have hW1 : Below w.heap.size w w1 := below_next (by repeat (first | exact Below.refl _ _ | apply below_new)) hbl
  obtain ⟨hz1, hz2, hz3, hz4⟩ := hzz h1 h2
  have hma : ma ≠ 0 := fun h => h1 (hza.1 h)
  have hmb : mb ≠ 0 := fun h => h2 (hzb.1 h)
  have hlz := man_len hzt hzv (man_lt ((HXX.out.trans hz3) ▸ HhX.out))
  have hlz' := man_len hzt' hzv' (man_lt ((HYY.out.trans hz4) ▸ HhY.out))
  have hz : ((zs.length : Int) == 0) = false := by
    have := (hzt.nil_iff (B := B32) (by decide))
    rw [hzv] at this
    simp; exact fun h => hma (this.1 (by rw [h]; rfl))
  have hz' : ((zs'.length : Int) == 0) = false := by
    have := (hzt'.nil_iff (B := B32) (by decide))
    rw [hzv'] at this
    simp; exact fun h => hmb (this.1 (by rw [h]; rfl))
  have H3 := Lib.hid (HXX.out.trans hz3)
  have H4 := Lib.hid (HYY.out.trans hz4)
  have H1 := Lib.hid hz1
  have HV := Lib.hid hzv
  have HV' := Lib.hid hzv'
  have hord := (le_of_scaled H3.out H4.out).2 hge
  have hcp : cmpN (val B32 zs) (val B32 zs') < 0 := by rw [HV.out, HV'.out, cmpN_lt hord]; decide
  have hll : zs.length ≤ zs'.length := Nat.le_of_not_lt fun h => by
    have := val_lt_of_len (B := B32) (by decide) (u32bd hrb) hzt h
    rw [hzv, hzv'] at this; omega
  have HORD : Hid (val B32 zs ≤ val B32 zs') := by simp only [Hid, HV.out, HV'.out]; omega
  have HOR := Lib.hid hord
  have HT := Lib.hid hzt
  have HT' := Lib.hid hzt'
  have hT1 : NT w1 58 (w.heap.size + 1 + 1) := NT.below (by have := NT.new ((w.alloc (.cells #[.bool nx, .slice A xs.length ca, .int .i64 ex] 38)).alloc (.cells #[.bool !nx, .slice B ys.length cb, .int .i64 ey] 38)) #[.bool false, .slice none 0 0, .int .i64 0] 38 58 (by decide); simpa using this) hbl
  clear hza hzb hzt hzt' hzv hzv' hzz hz3 hz4 hz1 h1 h2 hs hma hmb hord
  generalize hcq : cmpN (val B32 zs) (val B32 zs') = cq at hcp
  have HCQ := Lib.hid hcq
  clear hcq
  go_wp2_with fail
  refine (cmp_calls A' B' _ _ ca' cb' 58 58 base base zs zs' _ rfl rfl (hra.below (by repeat (first | exact Below.refl _ _ | apply below_new))) (hrb.below (by repeat (first | exact Below.refl _ _ | apply below_new))) (by omega) (by omega) HT.out HT'.out).mono ?_
  rintro r w9 ⟨rfl, q, rfl⟩
  rw [HCQ.out]
  go_wp2_with fail
  refine (minus_calls B' A' _ _ cb' ca' 58 58 base base base zs' zs _ rfl rfl (hrb.below (by repeat (first | exact Below.refl _ _ | (with_reducible refine Below.setCell ?_ (by simp) _) | (with_reducible apply below_drewN) | (with_reducible apply below_new)))) (hra.below (by repeat (first | exact Below.refl _ _ | (with_reducible refine Below.setCell ?_ (by simp) _) | (with_reducible apply below_drewN) | (with_reducible apply below_new)))) hll (by omega) HORD.out).mono ?_
  rintro r w2 ⟨v, rfl, hm, hb2⟩
  have HM := Lib.hid hm
  obtain ⟨ts, C, cc, hv, _, _, htt, htv⟩ := hm
  cases hv
  have hl : ((ts.length : Int) == 0) = false := by
    have hnn := htt.nil_iff (B := B32) (by decide)
    rw [htv, HV.out, HV'.out] at hnn
    have hor := HOR.out
    simp; intro h; have := hnn.1 (by rw [h]; rfl); omega
  clear htt htv
  obtain ⟨hc2, hf2⟩ := bcell hb2
  have hsz2 : w1.heap.size < w2.heap.size := by have := hb2.size; simp [World.drewN] at this; omega
  have hm1 : w.heap.size + 1 < w2.heap.size := by omega
  have hm0 : w.heap.size < w2.heap.size := by omega
  have hm2 : w.heap.size + 1 + 1 < w2.heap.size := by omega
  have hk1 : w.heap.size + 1 < w1.heap.size + 1 := by omega
  have hk0 : w.heap.size < w1.heap.size + 1 := by omega
  have hk2 : w.heap.size + 1 + 1 < w1.heap.size + 1 := by omega
  have hT2 : NT w2 58 w1.heap.size := (((NT.new w1 _ _ _ (by decide)).drewN _).set _ _ _).below hb2
  have hT3 : NT w2 58 (w.heap.size + 1 + 1) := (((hT1.alloc _).drewN _).set _ _ _).below hb2
  have hW2 : Below w.heap.size w w2 := below_next ((below_drewN (below_new hW1 _) _).setCell (by simp; omega) _) hb2
  go_wp2
  refine bodyPost_ret (v := .agg #[.bool (!nx), .slice C ts.length cc, .int .i64 e]) (by simp [results, Tryz.results52, go_sem, hc, hn0, hn1, hn2, hc2, hm0, hm1, hm2, hk0, hk1, hk2]) rfl ⟨[.bool (!nx), .slice C ts.length cc, .int .i64 e], rfl, ?_, (by repeat (first | exact hW2 | refine Below.setCell ?_ (by simp <;> omega) _))⟩
  refine ⟨(!nx), (val B32 zs' - val B32 zs), e, _, rfl, (by repeat (first | exact HM.out | refine mRd_setNT ?_ (by repeat (first | exact hT2 | exact hT3 | apply NT.set)) (by omega) _ _)), fun _ => H1.out, ⟨by have := H1.out; omega, hz2⟩, ?_⟩
  rw [HV.out, HV'.out]; exact (sg_diffv H3.out H4.out).2 (by have := HOR.out; omega)
theorem plus_num (K base L : Nat) (X Y : Int) (cx cy : List Value) (w : World) (hbase : base ≤ w.heap.size) (hx : (numRd K).R w base X cx) (hy : (numRd K).R w base Y cy)
    (hX : X.natAbs < 2 ^ L) (hY : Y.natAbs < 2 ^ L) (hL : L ≤ 1073741824) (hK : K ≤ 1073741824) :
    Calls Tryz.prog 52 #[.agg cx.toArray, .agg cy.toArray] w fun r w' => ∃ cs, r = .returned (.agg cs.toArray) ∧ (numRd K).R w' base (X + Y) cs ∧ Below w.heap.size w w' := by
  by_cases h0 : X = 0
  · exact plus_num_zl K base L X Y cx cy w hbase hx hy hX hY hL h0
  by_cases h1 : Y = 0
  · exact plus_num_zr K base L X Y cx cy w hbase hx hy hX hY hL h0 h1
  by_cases hs : (0 ≤ X ∧ 0 ≤ Y) ∨ (X ≤ 0 ∧ Y ≤ 0)
  · exact plus_num_same K base L X Y cx cy w hbase hx hy hX hY hL hK h0 h1 hs
  have hs' : (0 < X ∧ Y < 0) ∨ (X < 0 ∧ 0 < Y) := by omega
  rcases Nat.lt_trichotomy X.natAbs Y.natAbs with h | h | h
  · exact plus_num_lt K base L X Y cx cy w hbase hx hy hX hY hL hK h0 h1 hs' h
  · exact plus_num_eq K base L X Y cx cy w hbase hx hy hX hY hL hK h0 h1 hs' h.symm
  · exact plus_num_gt K base L X Y cx cy w hbase hx hy hX hY hL hK h0 h1 hs' h
end Go.Proofs.YtikdhkmcdmnadaaGreatFmt
