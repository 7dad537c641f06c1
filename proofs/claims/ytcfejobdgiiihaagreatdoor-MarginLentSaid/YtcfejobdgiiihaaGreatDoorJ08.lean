/- Walks and plain laws of this seat's functions, part 8: R2f R2g R2h. -/
import Derived.Test.YtcfejobdgiiihaaGreatDoorJ03
set_option linter.unusedVariables false
set_option linter.unusedSimpArgs false
namespace Go.Proofs.YtcfejobdgiiihaaGreatDoor
open Go.RowKit

theorem mRd_setNT {w : World} {base b m : Nat} {cs : List Value} (h : mRd.R w base m cs) (hn : NT w 113 b) (hb : base ≤ b) (i : Nat) (u : Value) : mRd.R (w.setCell ⟨b, i, none⟩ u) base m cs :=
  mRd.keep h (Keeps.set_nt hn hb i u)
theorem sg_diffv {n : Bool} {a b k : Nat} {X Y : Int} (hX : X = sg n (a * 2 ^ k)) (hY : Y = sg (!n) (b * 2 ^ k)) : (b ≤ a → X + Y = sg n ((a - b) * 2 ^ k)) ∧ (a ≤ b → X + Y = sg (!n) ((b - a) * 2 ^ k)) := by
  subst hX hY
  constructor
  · intro h
    have := Nat.mul_le_mul_right (2 ^ k) h
    rw [Nat.sub_mul]
    generalize a * 2 ^ k = p at *
    generalize b * 2 ^ k = q at *
    cases n <;> simp [sg] <;> omega
  · intro h
    have := Nat.mul_le_mul_right (2 ^ k) h
    rw [Nat.sub_mul]
    generalize a * 2 ^ k = p at *
    generalize b * 2 ^ k = q at *
    cases n <;> simp [sg] <;> omega
theorem le_of_scaled {n n' : Bool} {a b k : Nat} {X Y : Int} (hX : X = sg n (a * 2 ^ k)) (hY : Y = sg n' (b * 2 ^ k)) : (X.natAbs ≤ Y.natAbs → a ≤ b) ∧ (X.natAbs < Y.natAbs → a < b) := by
  subst hX hY
  rw [sg_abs, sg_abs]
  have hp : 0 < 2 ^ k := Nat.pow_pos (by decide)
  exact ⟨fun h => Nat.le_of_mul_le_mul_right h hp, fun h => Nat.lt_of_mul_lt_mul_right h⟩
theorem sg_eq_zero {neg : Bool} {m k : Nat} (h : sg neg (m * 2 ^ k) = 0) : m = 0 := by
  have h1 := sg_abs neg (m * 2 ^ k)
  rw [h] at h1
  have := Nat.pow_pos (n := k) (show 0 < 2 by decide)
  rcases Nat.mul_eq_zero.1 h1.symm with h2 | h2
  · exact h2
  · omega
theorem sg_same {nx ny : Bool} {p q : Nat} {X Y : Int} (hX : X = sg nx p) (hY : Y = sg ny q) (h1 : X ≠ 0) (h2 : Y ≠ 0) (h : (0 ≤ X ∧ 0 ≤ Y) ∨ (X ≤ 0 ∧ Y ≤ 0)) : nx = ny := by
  subst hX hY
  cases nx <;> cases ny <;> simp [sg] at * <;> omega
theorem sg_diff {nx ny : Bool} {p q : Nat} {X Y : Int} (hX : X = sg nx p) (hY : Y = sg ny q) (h : (0 < X ∧ Y < 0) ∨ (X < 0 ∧ 0 < Y)) : ny = !nx ∧ (nx == ny) = false := by
  subst hX hY
  cases nx <;> cases ny <;> simp [sg] at * <;> omega
theorem sg_plus {n : Bool} {a b k : Nat} {X Y : Int} (hX : X = sg n (a * 2 ^ k)) (hY : Y = sg n (b * 2 ^ k)) : X + Y = sg n ((a + b) * 2 ^ k) := by
  subst hX hY
  rw [Nat.add_mul]
  cases n <;> simp [sg] <;> omega
set_option maxHeartbeats 2000000 in
theorem plus_num_zl (K base L : Nat) (X Y : Int) (cx cy : List Value) (w : World) (hbase : base ≤ w.heap.size) (hx : (numRd K).R w base X cx) (hy : (numRd K).R w base Y cy)
    (hX : X.natAbs < 2 ^ L) (hY : Y.natAbs < 2 ^ L) (hL : L ≤ 1073741824) (h00 : X = 0) :
    Calls Tryz.prog 26 #[.agg cx.toArray, .agg cy.toArray] w fun r w' => ∃ cs, r = .returned (.agg cs.toArray) ∧ (numRd K).R w' base (X + Y) cs ∧ Below w.heap.size w w' := by
  have HX := Lib.hid hx
  have HY := Lib.hid hy
  obtain ⟨nx, mx, ex, vx, rfl, hmx, hex, hbx, hXX⟩ := hx
  obtain ⟨ny, my, ey, vy, rfl, hmy, hey, hby, rfl⟩ := hy
  have hlev := fun W (h : Below w.heap.size w W) => level_calls K base L ex ey mx my nx ny vx vy W (mRd.below hmx h) (mRd.below hmy h) hex hey hbx hby (hXX ▸ hX) hY hL
  obtain ⟨xs, A, ca, hv, _⟩ := hmx
  obtain ⟨ys, B, cb, hv', _⟩ := hmy
  cases hv
  cases hv'
  generalize hYe : sg ny (my * 2 ^ (ey + K).toNat) = Y at *
  have HYe := Lib.hid hYe
  have HLV := Lib.hid hlev
  have h0 : mx = 0 := sg_eq_zero (hXX ▸ h00)
  clear hYe hlev hex hey hXX
  have HhX := Lib.hid hX
  have HhY := Lib.hid hY
  clear hX hY
  go_enter Tryz.func26, Tryz.ntmps26
  go_wp2_with fail
  refine (HLV.out _ (by repeat (first | exact Below.refl _ _ | apply below_new))).mono ?_
  rintro r w1 ⟨va, vb, e, rfl, ⟨ma, mb, ha, hb, hza, hzb, hzz⟩, hbl⟩
  have HA := Lib.hid ha
  have HB := Lib.hid hb
  obtain ⟨zs, A', ca', hva, _, _, hzt, hzv⟩ := ha
  obtain ⟨zs', B', cb', hvb, _, _, hzt', hzv'⟩ := hb
  cases hva
  cases hvb
  obtain ⟨hc, hf⟩ := bcell hbl
  have hsz : w.heap.size + 2 < w1.heap.size := by have := hbl.size; simp at this; omega
  have hn1 : w.heap.size + 1 < w1.heap.size := by omega
  have hn0 : w.heap.size < w1.heap.size := by omega
  have hn2 : w.heap.size + 1 + 1 < w1.heap.size := by omega
  have hW1 : Below w.heap.size w w1 := below_next (by repeat (first | exact Below.refl _ _ | apply below_new)) hbl
  have hz : ((zs.length : Int) == 0) = true := by
    have := (hzt.nil_iff (B := B32) (by decide)).2 (by rw [hzv]; exact hza.2 h0)
    simp; exact List.length_eq_zero_iff.1 this
  clear hza hzb hzt hzv h0 hzt' hzv' hzz
  go_wp2
  refine bodyPost_ret (v := .agg #[.bool ny, .slice B ys.length cb, .int .i64 ey]) (by simp [results, Tryz.results26, go_sem, hc, hn0, hn1, hn2]) rfl ⟨[.bool ny, .slice B ys.length cb, .int .i64 ey], rfl, ?_, (by repeat (first | exact hW1 | exact Below.refl _ _ | refine Below.setCell ?_ (by simp <;> omega) _ | refine below_new ?_ _))⟩
  rw [h00, Int.zero_add]
  exact (numRd K).below HY.out (by repeat (first | exact hW1 | exact Below.refl _ _ | refine Below.setCell ?_ (by simp <;> omega) _ | refine below_new ?_ _))
set_option maxHeartbeats 2000000 in
theorem plus_num_zr (K base L : Nat) (X Y : Int) (cx cy : List Value) (w : World) (hbase : base ≤ w.heap.size) (hx : (numRd K).R w base X cx) (hy : (numRd K).R w base Y cy)
    (hX : X.natAbs < 2 ^ L) (hY : Y.natAbs < 2 ^ L) (hL : L ≤ 1073741824) (hn00 : X ≠ 0) (h00 : Y = 0) :
    Calls Tryz.prog 26 #[.agg cx.toArray, .agg cy.toArray] w fun r w' => ∃ cs, r = .returned (.agg cs.toArray) ∧ (numRd K).R w' base (X + Y) cs ∧ Below w.heap.size w w' := by
  have HX := Lib.hid hx
  have HY := Lib.hid hy
  obtain ⟨nx, mx, ex, vx, rfl, hmx, hex, hbx, hXX⟩ := hx
  obtain ⟨ny, my, ey, vy, rfl, hmy, hey, hby, hYY⟩ := hy
  have hlev := fun W (h : Below w.heap.size w W) => level_calls K base L ex ey mx my nx ny vx vy W (mRd.below hmx h) (mRd.below hmy h) hex hey hbx hby (hXX ▸ hX) (hYY ▸ hY) hL
  obtain ⟨xs, A, ca, hv, _⟩ := hmx
  obtain ⟨ys, B, cb, hv', _⟩ := hmy
  cases hv
  cases hv'
  have HLV := Lib.hid hlev
  have h0 : my = 0 := sg_eq_zero (hYY ▸ h00)
  have h1 : mx ≠ 0 := fun h => hn00 (by rw [hXX, h, Nat.zero_mul, sg_zero])
  clear hlev hex hey hXX hYY hn00
  have HhX := Lib.hid hX
  have HhY := Lib.hid hY
  clear hX hY
  go_enter Tryz.func26, Tryz.ntmps26
  go_wp2_with fail
  refine (HLV.out _ (by repeat (first | exact Below.refl _ _ | apply below_new))).mono ?_
  rintro r w1 ⟨va, vb, e, rfl, ⟨ma, mb, ha, hb, hza, hzb, hzz⟩, hbl⟩
  have HA := Lib.hid ha
  have HB := Lib.hid hb
  obtain ⟨zs, A', ca', hva, _, _, hzt, hzv⟩ := ha
  obtain ⟨zs', B', cb', hvb, _, _, hzt', hzv'⟩ := hb
  cases hva
  cases hvb
  obtain ⟨hc, hf⟩ := bcell hbl
  have hsz : w.heap.size + 2 < w1.heap.size := by have := hbl.size; simp at this; omega
  have hn1 : w.heap.size + 1 < w1.heap.size := by omega
  have hn0 : w.heap.size < w1.heap.size := by omega
  have hn2 : w.heap.size + 1 + 1 < w1.heap.size := by omega
  have hW1 : Below w.heap.size w w1 := below_next (by repeat (first | exact Below.refl _ _ | apply below_new)) hbl
  have hz : ((zs.length : Int) == 0) = false := by
    have := (hzt.nil_iff (B := B32) (by decide))
    rw [hzv] at this
    simp; exact fun h => h1 (hza.1 (this.1 (by rw [h]; rfl)))
  have hz' : ((zs'.length : Int) == 0) = true := by
    have := (hzt'.nil_iff (B := B32) (by decide)).2 (by rw [hzv']; exact hzb.2 h0)
    simp; exact List.length_eq_zero_iff.1 this
  clear hza hzb hzt hzv h0 h1 hzt' hzv' hzz
  go_wp2
  refine bodyPost_ret (v := .agg #[.bool nx, .slice A xs.length ca, .int .i64 ex]) (by simp [results, Tryz.results26, go_sem, hc, hn0, hn1, hn2]) rfl ⟨[.bool nx, .slice A xs.length ca, .int .i64 ex], rfl, ?_, (by repeat (first | exact hW1 | exact Below.refl _ _ | refine Below.setCell ?_ (by simp <;> omega) _ | refine below_new ?_ _))⟩
  rw [h00, Int.add_zero]
  exact (numRd K).below HX.out (by repeat (first | exact hW1 | exact Below.refl _ _ | refine Below.setCell ?_ (by simp <;> omega) _ | refine below_new ?_ _))
set_option maxHeartbeats 2000000 in
theorem plus_num_same (K base L : Nat) (X Y : Int) (cx cy : List Value) (w : World) (hbase : base ≤ w.heap.size) (hx : (numRd K).R w base X cx) (hy : (numRd K).R w base Y cy)
    (hX : X.natAbs < 2 ^ L) (hY : Y.natAbs < 2 ^ L) (hL : L ≤ 1073741824) (hK : K ≤ 1073741824) (hn00 : X ≠ 0) (hn01 : Y ≠ 0) (hs : (0 ≤ X ∧ 0 ≤ Y) ∨ (X ≤ 0 ∧ Y ≤ 0)) :
    Calls Tryz.prog 26 #[.agg cx.toArray, .agg cy.toArray] w fun r w' => ∃ cs, r = .returned (.agg cs.toArray) ∧ (numRd K).R w' base (X + Y) cs ∧ Below w.heap.size w w' := by
  have HX := Lib.hid hx
  have HY := Lib.hid hy
  obtain ⟨nx, mx, ex, vx, rfl, hmx, hex, hbx, hXX⟩ := hx
  obtain ⟨ny, my, ey, vy, rfl, hmy, hey, hby, hYY⟩ := hy
  have hlev := fun W (h : Below w.heap.size w W) => level_calls K base L ex ey mx my nx ny vx vy W (mRd.below hmx h) (mRd.below hmy h) hex hey hbx hby (hXX ▸ hX) (hYY ▸ hY) hL
  obtain ⟨xs, A, ca, hv, _⟩ := hmx
  obtain ⟨ys, B, cb, hv', _⟩ := hmy
  cases hv
  cases hv'
  have HLV := Lib.hid hlev
  have h2 : my ≠ 0 := fun h => hn01 (by rw [hYY, h, Nat.zero_mul, sg_zero])
  have h1 : mx ≠ 0 := fun h => hn00 (by rw [hXX, h, Nat.zero_mul, sg_zero])
  
  obtain rfl : nx = ny := sg_same hXX hYY hn00 hn01 hs
  have hbn : (nx == nx) = true := by simp
  have HXX := Lib.hid hXX
  have HYY := Lib.hid hYY
  clear hlev hex hey hXX hYY hn00 hn01
  have HhX := Lib.hid hX
  have HhY := Lib.hid hY
  clear hX hY
  go_enter Tryz.func26, Tryz.ntmps26
  go_wp2_with fail
  refine (HLV.out _ (by repeat (first | exact Below.refl _ _ | apply below_new))).mono ?_
  rintro r w1 ⟨va, vb, e, rfl, ⟨ma, mb, ha, hb, hza, hzb, hzz⟩, hbl⟩
  have HA := Lib.hid ha
  have HB := Lib.hid hb
  obtain ⟨zs, A', ca', hva, _, hra, hzt, hzv⟩ := ha
  obtain ⟨zs', B', cb', hvb, _, hrb, hzt', hzv'⟩ := hb
  cases hva
  cases hvb
  obtain ⟨hc, hf⟩ := bcell hbl
  have hsz : w.heap.size + 2 < w1.heap.size := by have := hbl.size; simp at this; omega
  have hn1 : w.heap.size + 1 < w1.heap.size := by omega
  have hn0 : w.heap.size < w1.heap.size := by omega
  have hn2 : w.heap.size + 1 + 1 < w1.heap.size := by omega
  have hW1 : Below w.heap.size w w1 := below_next (by repeat (first | exact Below.refl _ _ | apply below_new)) hbl
  obtain ⟨hz1, hz2, hz3, hz4⟩ := hzz h1 h2
  have hma : ma ≠ 0 := fun h => h1 (hza.1 h)
  have hmb : mb ≠ 0 := fun h => h2 (hzb.1 h)
  have hlz := man_len hzt hzv (man_lt ((HXX.out.trans hz3) ▸ HhX.out))
  have hlz' := man_len hzt' hzv' (man_lt ((HYY.out.trans hz4) ▸ HhY.out))
  have hz : ((zs.length : Int) == 0) = false := by
    have := (hzt.nil_iff (B := B32) (by decide))
    rw [hzv] at this
    simp; exact fun h => hma (this.1 (by rw [h]; rfl))
  have hz' : ((zs'.length : Int) == 0) = false := by
    have := (hzt'.nil_iff (B := B32) (by decide))
    rw [hzv'] at this
    simp; exact fun h => hmb (this.1 (by rw [h]; rfl))
  have H3 := Lib.hid (HXX.out.trans hz3)
  have H4 := Lib.hid (HYY.out.trans hz4)
  have H1 := Lib.hid hz1
  have HV := Lib.hid hzv
  have HV' := Lib.hid hzv'
  clear hza hzb hzt hzt' hzv hzv' hzz hz3 hz4 hz1 h1 h2 hs
  have hT1 : NT w1 113 (w.heap.size + 1 + 1) := NT.below (by have := NT.new ((w.alloc (.cells #[.bool nx, .slice A xs.length ca, .int .i64 ex] 72)).alloc (.cells #[.bool nx, .slice B ys.length cb, .int .i64 ey] 72)) #[.bool false, .slice none 0 0, .int .i64 0] 72 113 (by decide); simpa using this) hbl
  go_wp2_with fail
  refine (plus_calls A' B' _ _ ca' cb' 113 113 base base base zs zs' _ rfl rfl (hra.below (by repeat (first | exact Below.refl _ _ | apply below_new))) (hrb.below (by repeat (first | exact Below.refl _ _ | apply below_new))) (by omega) (by omega)).mono ?_
  rintro r w2 ⟨v, rfl, hm, hb2⟩
  have HM := Lib.hid hm
  obtain ⟨ts, C, cc, hv, _, _, htt, htv⟩ := hm
  cases hv
  have hl : ((ts.length : Int) == 0) = false := by
    have := htt.nil_iff (B := B32) (by decide)
    rw [htv, HV.out, HV'.out] at this
    simp; intro h; rw [h] at this; simp at this; omega
  clear htt htv hma hmb
  obtain ⟨hc2, hf2⟩ := bcell hb2
  have hsz2 : w1.heap.size < w2.heap.size := by have := hb2.size; simp at this; omega
  have hm1 : w.heap.size + 1 < w2.heap.size := by omega
  have hm0 : w.heap.size < w2.heap.size := by omega
  have hm2 : w.heap.size + 1 + 1 < w2.heap.size := by omega
  have hk1 : w.heap.size + 1 < w1.heap.size + 1 := by omega
  have hk0 : w.heap.size < w1.heap.size + 1 := by omega
  have hk2 : w.heap.size + 1 + 1 < w1.heap.size + 1 := by omega
  have hT2 : NT w2 113 w1.heap.size := (NT.new w1 _ _ _ (by decide)).below hb2
  have hT3 : NT w2 113 (w.heap.size + 1 + 1) := (hT1.alloc _).below hb2
  have hW2 : Below w.heap.size w w2 := below_next (below_new hW1 _) hb2
  go_wp2
  refine bodyPost_ret (v := .agg #[.bool nx, .slice C ts.length cc, .int .i64 e]) (by simp [results, Tryz.results26, go_sem, hc, hn0, hn1, hn2, hc2, hm0, hm1, hm2, hk0, hk1, hk2]) rfl ⟨[.bool nx, .slice C ts.length cc, .int .i64 e], rfl, ?_, (by repeat (first | exact hW2 | refine Below.setCell ?_ (by simp <;> omega) _))⟩
  refine ⟨nx, (val B32 zs + val B32 zs'), e, _, rfl, (by repeat (first | exact HM.out | refine mRd_setNT ?_ (by repeat (first | exact hT2 | exact hT3 | apply NT.set)) (by omega) _ _)), fun _ => H1.out, ⟨by have := H1.out; omega, hz2⟩, ?_⟩
  rw [HV.out, HV'.out]; exact sg_plus H3.out H4.out
set_option maxHeartbeats 2000000 in
theorem plus_num_gt (K base L : Nat) (X Y : Int) (cx cy : List Value) (w : World) (hbase : base ≤ w.heap.size) (hx : (numRd K).R w base X cx) (hy : (numRd K).R w base Y cy)
    (hX : X.natAbs < 2 ^ L) (hY : Y.natAbs < 2 ^ L) (hL : L ≤ 1073741824) (hK : K ≤ 1073741824) (hn00 : X ≠ 0) (hn01 : Y ≠ 0) (hs : (0 < X ∧ Y < 0) ∨ (X < 0 ∧ 0 < Y)) (hge : Y.natAbs < X.natAbs) :
    Calls Tryz.prog 26 #[.agg cx.toArray, .agg cy.toArray] w fun r w' => ∃ cs, r = .returned (.agg cs.toArray) ∧ (numRd K).R w' base (X + Y) cs ∧ Below w.heap.size w w' := by
  have HX := Lib.hid hx
  have HY := Lib.hid hy
  obtain ⟨nx, mx, ex, vx, rfl, hmx, hex, hbx, hXX⟩ := hx
  obtain ⟨ny, my, ey, vy, rfl, hmy, hey, hby, hYY⟩ := hy
  have hlev := fun W (h : Below w.heap.size w W) => level_calls K base L ex ey mx my nx ny vx vy W (mRd.below hmx h) (mRd.below hmy h) hex hey hbx hby (hXX ▸ hX) (hYY ▸ hY) hL
  obtain ⟨xs, A, ca, hv, _⟩ := hmx
  obtain ⟨ys, B, cb, hv', _⟩ := hmy
  cases hv
  cases hv'
  have HLV := Lib.hid hlev
  have h2 : my ≠ 0 := fun h => hn01 (by rw [hYY, h, Nat.zero_mul, sg_zero])
  have h1 : mx ≠ 0 := fun h => hn00 (by rw [hXX, h, Nat.zero_mul, sg_zero])
  
  obtain ⟨rfl, hbn⟩ := sg_diff hXX hYY hs
  have HXX := Lib.hid hXX
  have HYY := Lib.hid hYY
  clear hlev hex hey hXX hYY hn00 hn01
  have HhX := Lib.hid hX
  have HhY := Lib.hid hY
  clear hX hY
  go_enter Tryz.func26, Tryz.ntmps26
  go_wp2_with fail
  refine (HLV.out _ (by repeat (first | exact Below.refl _ _ | apply below_new))).mono ?_
  rintro r w1 ⟨va, vb, e, rfl, ⟨ma, mb, ha, hb, hza, hzb, hzz⟩, hbl⟩
  have HA := Lib.hid ha
  have HB := Lib.hid hb
  obtain ⟨zs, A', ca', hva, _, hra, hzt, hzv⟩ := ha
  obtain ⟨zs', B', cb', hvb, _, hrb, hzt', hzv'⟩ := hb
  cases hva
  cases hvb
  obtain ⟨hc, hf⟩ := bcell hbl
  have hsz : w.heap.size + 2 < w1.heap.size := by have := hbl.size; simp at this; omega
  have hn1 : w.heap.size + 1 < w1.heap.size := by omega
  have hn0 : w.heap.size < w1.heap.size := by omega
  have hn2 : w.heap.size + 1 + 1 < w1.heap.size := by omega
  have hW1 : Below w.heap.size w w1 := below_next (by repeat (first | exact Below.refl _ _ | apply below_new)) hbl
  obtain ⟨hz1, hz2, hz3, hz4⟩ := hzz h1 h2
  have hma : ma ≠ 0 := fun h => h1 (hza.1 h)
  have hmb : mb ≠ 0 := fun h => h2 (hzb.1 h)
  have hlz := man_len hzt hzv (man_lt ((HXX.out.trans hz3) ▸ HhX.out))
  have hlz' := man_len hzt' hzv' (man_lt ((HYY.out.trans hz4) ▸ HhY.out))
  have hz : ((zs.length : Int) == 0) = false := by
    have := (hzt.nil_iff (B := B32) (by decide))
    rw [hzv] at this
    simp; exact fun h => hma (this.1 (by rw [h]; rfl))
  have hz' : ((zs'.length : Int) == 0) = false := by
    have := (hzt'.nil_iff (B := B32) (by decide))
    rw [hzv'] at this
    simp; exact fun h => hmb (this.1 (by rw [h]; rfl))
  have H3 := Lib.hid (HXX.out.trans hz3)
  have H4 := Lib.hid (HYY.out.trans hz4)
  have H1 := Lib.hid hz1
  have HV := Lib.hid hzv
  have HV' := Lib.hid hzv'
  have hord := (le_of_scaled H4.out H3.out).2 hge
  have hcp : 0 ≤ cmpN (val B32 zs) (val B32 zs') := by rw [HV.out, HV'.out, cmpN_gt hord]; decide
  have hll : zs'.length ≤ zs.length := Nat.le_of_not_lt fun h => by
    have := val_lt_of_len (B := B32) (by decide) (u32bd hra) hzt' h
    rw [hzv', hzv] at this; omega
  have HORD : Hid (val B32 zs' ≤ val B32 zs) := by simp only [Hid, HV.out, HV'.out]; omega
  have HOR := Lib.hid hord
  have HT := Lib.hid hzt
  have HT' := Lib.hid hzt'
  have hT1 : NT w1 113 (w.heap.size + 1 + 1) := NT.below (by have := NT.new ((w.alloc (.cells #[.bool nx, .slice A xs.length ca, .int .i64 ex] 72)).alloc (.cells #[.bool !nx, .slice B ys.length cb, .int .i64 ey] 72)) #[.bool false, .slice none 0 0, .int .i64 0] 72 113 (by decide); simpa using this) hbl
  clear hza hzb hzt hzt' hzv hzv' hzz hz3 hz4 hz1 h1 h2 hs hma hmb hord
  generalize hcq : cmpN (val B32 zs) (val B32 zs') = cq at hcp
  have HCQ := Lib.hid hcq
  clear hcq
  go_wp2_with fail
  refine (cmp_calls A' B' _ _ ca' cb' 113 113 base base zs zs' _ rfl rfl (hra.below (by repeat (first | exact Below.refl _ _ | apply below_new))) (hrb.below (by repeat (first | exact Below.refl _ _ | apply below_new))) (by omega) (by omega) HT.out HT'.out).mono ?_
  rintro r w9 ⟨rfl, q, rfl⟩
  rw [HCQ.out]
  go_wp2_with fail
  refine (minus_calls A' B' _ _ ca' cb' 113 113 base base base zs zs' _ rfl rfl (hra.below (by repeat (first | exact Below.refl _ _ | apply below_drewN | apply below_new))) (hrb.below (by repeat (first | exact Below.refl _ _ | apply below_drewN | apply below_new))) hll (by omega) HORD.out).mono ?_
  rintro r w2 ⟨v, rfl, hm, hb2⟩
  have HM := Lib.hid hm
  obtain ⟨ts, C, cc, hv, _, _, htt, htv⟩ := hm
  cases hv
  have hl : ((ts.length : Int) == 0) = false := by
    have hnn := htt.nil_iff (B := B32) (by decide)
    rw [htv, HV.out, HV'.out] at hnn
    have hor := HOR.out
    simp; intro h; have := hnn.1 (by rw [h]; rfl); omega
  clear htt htv
  obtain ⟨hc2, hf2⟩ := bcell hb2
  have hsz2 : w1.heap.size < w2.heap.size := by have := hb2.size; simp [World.drewN] at this; omega
  have hm1 : w.heap.size + 1 < w2.heap.size := by omega
  have hm0 : w.heap.size < w2.heap.size := by omega
  have hm2 : w.heap.size + 1 + 1 < w2.heap.size := by omega
  have hk1 : w.heap.size + 1 < w1.heap.size + 1 := by omega
  have hk0 : w.heap.size < w1.heap.size + 1 := by omega
  have hk2 : w.heap.size + 1 + 1 < w1.heap.size + 1 := by omega
  have hB2 : Below (w1.alloc (Obj.cells #[Value.bool nx, Value.slice none 0 0, Value.int IntKind.i64 e] 72)).heap.size (w1.alloc (Obj.cells #[Value.bool nx, Value.slice none 0 0, Value.int IntKind.i64 e] 72)) w2 := below_next (below_drewN (Below.refl _ _) q) hb2
  have hT2 : NT w2 113 w1.heap.size := (NT.new w1 _ _ _ (by decide)).below hB2
  have hT3 : NT w2 113 (w.heap.size + 1 + 1) := (hT1.alloc _).below hB2
  have hW2 : Below w.heap.size w w2 := below_next (below_new hW1 _) hB2
  go_wp2
  refine bodyPost_ret (v := .agg #[.bool nx, .slice C ts.length cc, .int .i64 e]) (by simp [results, Tryz.results26, go_sem, hc, hn0, hn1, hn2, hc2, hm0, hm1, hm2, hk0, hk1, hk2]) rfl ⟨[.bool nx, .slice C ts.length cc, .int .i64 e], rfl, ?_, (by repeat (first | exact hW2 | refine Below.setCell ?_ (by simp <;> omega) _))⟩
  refine ⟨nx, (val B32 zs - val B32 zs'), e, _, rfl, (by repeat (first | exact HM.out | refine mRd_setNT ?_ (by repeat (first | exact hT2 | exact hT3 | apply NT.set)) (by omega) _ _)), fun _ => H1.out, ⟨by have := H1.out; omega, hz2⟩, ?_⟩
  rw [HV.out, HV'.out]; exact (sg_diffv H3.out H4.out).1 (by have := HOR.out; omega)
set_option maxHeartbeats 2000000 in
theorem plus_num_eq (K base L : Nat) (X Y : Int) (cx cy : List Value) (w : World) (hbase : base ≤ w.heap.size) (hx : (numRd K).R w base X cx) (hy : (numRd K).R w base Y cy)
    (hX : X.natAbs < 2 ^ L) (hY : Y.natAbs < 2 ^ L) (hL : L ≤ 1073741824) (hK : K ≤ 1073741824) (hn00 : X ≠ 0) (hn01 : Y ≠ 0) (hs : (0 < X ∧ Y < 0) ∨ (X < 0 ∧ 0 < Y)) (hge : Y.natAbs = X.natAbs) :
    Calls Tryz.prog 26 #[.agg cx.toArray, .agg cy.toArray] w fun r w' => ∃ cs, r = .returned (.agg cs.toArray) ∧ (numRd K).R w' base (X + Y) cs ∧ Below w.heap.size w w' := by
  have HX := Lib.hid hx
  have HY := Lib.hid hy
  obtain ⟨nx, mx, ex, vx, rfl, hmx, hex, hbx, hXX⟩ := hx
  obtain ⟨ny, my, ey, vy, rfl, hmy, hey, hby, hYY⟩ := hy
  have hlev := fun W (h : Below w.heap.size w W) => level_calls K base L ex ey mx my nx ny vx vy W (mRd.below hmx h) (mRd.below hmy h) hex hey hbx hby (hXX ▸ hX) (hYY ▸ hY) hL
  obtain ⟨xs, A, ca, hv, _⟩ := hmx
  obtain ⟨ys, B, cb, hv', _⟩ := hmy
  cases hv
  cases hv'
  have HLV := Lib.hid hlev
  have h2 : my ≠ 0 := fun h => hn01 (by rw [hYY, h, Nat.zero_mul, sg_zero])
  have h1 : mx ≠ 0 := fun h => hn00 (by rw [hXX, h, Nat.zero_mul, sg_zero])
  
  obtain ⟨rfl, hbn⟩ := sg_diff hXX hYY hs
  have HXX := Lib.hid hXX
  have HYY := Lib.hid hYY
  clear hlev hex hey hXX hYY hn00 hn01
  have HhX := Lib.hid hX
  have HhY := Lib.hid hY
  clear hX hY
  go_enter Tryz.func26, Tryz.ntmps26
  go_wp2_with fail
  refine (HLV.out _ (by repeat (first | exact Below.refl _ _ | apply below_new))).mono ?_
  rintro r w1 ⟨va, vb, e, rfl, ⟨ma, mb, ha, hb, hza, hzb, hzz⟩, hbl⟩
  have HA := Lib.hid ha
  have HB := Lib.hid hb
  obtain ⟨zs, A', ca', hva, _, hra, hzt, hzv⟩ := ha
  obtain ⟨zs', B', cb', hvb, _, hrb, hzt', hzv'⟩ := hb
  cases hva
  cases hvb
  obtain ⟨hc, hf⟩ := bcell hbl
  have hsz : w.heap.size + 2 < w1.heap.size := by have := hbl.size; simp at this; omega
  have hn1 : w.heap.size + 1 < w1.heap.size := by omega
  have hn0 : w.heap.size < w1.heap.size := by omega
  have hn2 : w.heap.size + 1 + 1 < w1.heap.size := by omega
  have hW1 : Below w.heap.size w w1 := below_next (by repeat (first | exact Below.refl _ _ | apply below_new)) hbl
  obtain ⟨hz1, hz2, hz3, hz4⟩ := hzz h1 h2
  have hma : ma ≠ 0 := fun h => h1 (hza.1 h)
  have hmb : mb ≠ 0 := fun h => h2 (hzb.1 h)
  have hlz := man_len hzt hzv (man_lt ((HXX.out.trans hz3) ▸ HhX.out))
  have hlz' := man_len hzt' hzv' (man_lt ((HYY.out.trans hz4) ▸ HhY.out))
  have hz : ((zs.length : Int) == 0) = false := by
    have := (hzt.nil_iff (B := B32) (by decide))
    rw [hzv] at this
    simp; exact fun h => hma (this.1 (by rw [h]; rfl))
  have hz' : ((zs'.length : Int) == 0) = false := by
    have := (hzt'.nil_iff (B := B32) (by decide))
    rw [hzv'] at this
    simp; exact fun h => hmb (this.1 (by rw [h]; rfl))
  have H3 := Lib.hid (HXX.out.trans hz3)
  have H4 := Lib.hid (HYY.out.trans hz4)
  have H1 := Lib.hid hz1
  have HV := Lib.hid hzv
  have HV' := Lib.hid hzv'
  have hord : ma = mb := Nat.le_antisymm ((le_of_scaled H3.out H4.out).1 (by omega)) ((le_of_scaled H4.out H3.out).1 (by omega))
  have hcp : 0 ≤ cmpN (val B32 zs) (val B32 zs') := by rw [HV.out, HV'.out, hord, cmpN_eq]; decide
  have hll : zs'.length ≤ zs.length := Nat.le_of_not_lt fun h => by
    have := val_lt_of_len (B := B32) (by decide) (u32bd hra) hzt' h
    rw [hzv', hzv] at this; omega
  have HORD : Hid (val B32 zs' ≤ val B32 zs) := by simp only [Hid, HV.out, HV'.out]; omega
  have HOR := Lib.hid hord
  have HT := Lib.hid hzt
  have HT' := Lib.hid hzt'
  have hT1 : NT w1 113 (w.heap.size + 1 + 1) := NT.below (by have := NT.new ((w.alloc (.cells #[.bool nx, .slice A xs.length ca, .int .i64 ex] 72)).alloc (.cells #[.bool !nx, .slice B ys.length cb, .int .i64 ey] 72)) #[.bool false, .slice none 0 0, .int .i64 0] 72 113 (by decide); simpa using this) hbl
  clear hza hzb hzt hzt' hzv hzv' hzz hz3 hz4 hz1 h1 h2 hs hma hmb hord
  generalize hcq : cmpN (val B32 zs) (val B32 zs') = cq at hcp
  have HCQ := Lib.hid hcq
  clear hcq
  go_wp2_with fail
  refine (cmp_calls A' B' _ _ ca' cb' 113 113 base base zs zs' _ rfl rfl (hra.below (by repeat (first | exact Below.refl _ _ | apply below_new))) (hrb.below (by repeat (first | exact Below.refl _ _ | apply below_new))) (by omega) (by omega) HT.out HT'.out).mono ?_
  rintro r w9 ⟨rfl, q, rfl⟩
  rw [HCQ.out]
  go_wp2_with fail
  refine (minus_calls A' B' _ _ ca' cb' 113 113 base base base zs zs' _ rfl rfl (hra.below (by repeat (first | exact Below.refl _ _ | apply below_drewN | apply below_new))) (hrb.below (by repeat (first | exact Below.refl _ _ | apply below_drewN | apply below_new))) hll (by omega) HORD.out).mono ?_
  rintro r w2 ⟨v, rfl, hm, hb2⟩
  have HM := Lib.hid hm
  obtain ⟨ts, C, cc, hv, _, _, htt, htv⟩ := hm
  cases hv
  have hl : ((ts.length : Int) == 0) = true := by
    have hnn := htt.nil_iff (B := B32) (by decide)
    rw [htv, HV.out, HV'.out] at hnn
    have hor := HOR.out
    simp; exact List.length_eq_zero_iff.1 (hnn.2 (by omega))
  clear htt htv
  obtain ⟨hc2, hf2⟩ := bcell hb2
  have hsz2 : w1.heap.size < w2.heap.size := by have := hb2.size; simp [World.drewN] at this; omega
  have hm1 : w.heap.size + 1 < w2.heap.size := by omega
  have hm0 : w.heap.size < w2.heap.size := by omega
  have hm2 : w.heap.size + 1 + 1 < w2.heap.size := by omega
  have hk1 : w.heap.size + 1 < w1.heap.size + 1 := by omega
  have hk0 : w.heap.size < w1.heap.size + 1 := by omega
  have hk2 : w.heap.size + 1 + 1 < w1.heap.size + 1 := by omega
  have hB2 : Below (w1.alloc (Obj.cells #[Value.bool nx, Value.slice none 0 0, Value.int IntKind.i64 e] 72)).heap.size (w1.alloc (Obj.cells #[Value.bool nx, Value.slice none 0 0, Value.int IntKind.i64 e] 72)) w2 := below_next (below_drewN (Below.refl _ _) q) hb2
  have hT2 : NT w2 113 w1.heap.size := (NT.new w1 _ _ _ (by decide)).below hB2
  have hT3 : NT w2 113 (w.heap.size + 1 + 1) := (hT1.alloc _).below hB2
  have hW2 : Below w.heap.size w w2 := below_next (below_new hW1 _) hB2
  go_wp2
  refine bodyPost_ret (v := .agg #[.bool false, .slice none 0 0, .int .i64 0]) (by simp [results, Tryz.results26, go_sem, hc, hn0, hn1, hn2, hc2, hm0, hm1, hm2, hk0, hk1, hk2]) rfl ⟨[.bool false, .slice none 0 0, .int .i64 0], rfl, ?_, (by repeat (first | exact hW2 | refine Below.setCell ?_ (by simp <;> omega) _))⟩
  refine ⟨false, 0, 0, _, rfl, mRd_nil _ _ _ _, fun h => absurd rfl h, by omega, ?_⟩
  rw [Nat.zero_mul, sg_zero]; have := (sg_diffv H3.out H4.out).1 (by have := HOR.out; omega); rw [this, HOR.out, Nat.sub_self, Nat.zero_mul, sg_zero]
set_option maxHeartbeats 2000000 in
theorem plus_num_lt (K base L : Nat) (X Y : Int) (cx cy : List Value) (w : World) (hbase : base ≤ w.heap.size) (hx : (numRd K).R w base X cx) (hy : (numRd K).R w base Y cy)
    (hX : X.natAbs < 2 ^ L) (hY : Y.natAbs < 2 ^ L) (hL : L ≤ 1073741824) (hK : K ≤ 1073741824) (hn00 : X ≠ 0) (hn01 : Y ≠ 0) (hs : (0 < X ∧ Y < 0) ∨ (X < 0 ∧ 0 < Y)) (hge : X.natAbs < Y.natAbs) :
    Calls Tryz.prog 26 #[.agg cx.toArray, .agg cy.toArray] w fun r w' => ∃ cs, r = .returned (.agg cs.toArray) ∧ (numRd K).R w' base (X + Y) cs ∧ Below w.heap.size w w' := by
  have HX := Lib.hid hx
  have HY := Lib.hid hy
  obtain ⟨nx, mx, ex, vx, rfl, hmx, hex, hbx, hXX⟩ := hx
  obtain ⟨ny, my, ey, vy, rfl, hmy, hey, hby, hYY⟩ := hy
  have hlev := fun W (h : Below w.heap.size w W) => level_calls K base L ex ey mx my nx ny vx vy W (mRd.below hmx h) (mRd.below hmy h) hex hey hbx hby (hXX ▸ hX) (hYY ▸ hY) hL
  obtain ⟨xs, A, ca, hv, _⟩ := hmx
  obtain ⟨ys, B, cb, hv', _⟩ := hmy
  cases hv
  cases hv'
  have HLV := Lib.hid hlev
  have h2 : my ≠ 0 := fun h => hn01 (by rw [hYY, h, Nat.zero_mul, sg_zero])
  have h1 : mx ≠ 0 := fun h => hn00 (by rw [hXX, h, Nat.zero_mul, sg_zero])
  
  obtain ⟨rfl, hbn⟩ := sg_diff hXX hYY hs
  have HXX := Lib.hid hXX
  have HYY := Lib.hid hYY
  clear hlev hex hey hXX hYY hn00 hn01
  have HhX := Lib.hid hX
  have HhY := Lib.hid hY
  clear hX hY
  go_enter Tryz.func26, Tryz.ntmps26
  go_wp2_with fail
  refine (HLV.out _ (by repeat (first | exact Below.refl _ _ | apply below_new))).mono ?_
  rintro r w1 ⟨va, vb, e, rfl, ⟨ma, mb, ha, hb, hza, hzb, hzz⟩, hbl⟩
  have HA := Lib.hid ha
  have HB := Lib.hid hb
  obtain ⟨zs, A', ca', hva, _, hra, hzt, hzv⟩ := ha
  obtain ⟨zs', B', cb', hvb, _, hrb, hzt', hzv'⟩ := hb
  cases hva
  cases hvb
  obtain ⟨hc, hf⟩ := bcell hbl
  have hsz : w.heap.size + 2 < w1.heap.size := by have := hbl.size; simp at this; omega
  have hn1 : w.heap.size + 1 < w1.heap.size := by omega
  have hn0 : w.heap.size < w1.heap.size := by omega
  have hn2 : w.heap.size + 1 + 1 < w1.heap.size := by omega
  have hW1 : Below w.heap.size w w1 := below_next (by repeat (first | exact Below.refl _ _ | apply below_new)) hbl
  obtain ⟨hz1, hz2, hz3, hz4⟩ := hzz h1 h2
  have hma : ma ≠ 0 := fun h => h1 (hza.1 h)
  have hmb : mb ≠ 0 := fun h => h2 (hzb.1 h)
  have hlz := man_len hzt hzv (man_lt ((HXX.out.trans hz3) ▸ HhX.out))
  have hlz' := man_len hzt' hzv' (man_lt ((HYY.out.trans hz4) ▸ HhY.out))
  have hz : ((zs.length : Int) == 0) = false := by
    have := (hzt.nil_iff (B := B32) (by decide))
    rw [hzv] at this
    simp; exact fun h => hma (this.1 (by rw [h]; rfl))
  have hz' : ((zs'.length : Int) == 0) = false := by
    have := (hzt'.nil_iff (B := B32) (by decide))
    rw [hzv'] at this
    simp; exact fun h => hmb (this.1 (by rw [h]; rfl))
  have H3 := Lib.hid (HXX.out.trans hz3)
  have H4 := Lib.hid (HYY.out.trans hz4)
  have H1 := Lib.hid hz1
  have HV := Lib.hid hzv
  have HV' := Lib.hid hzv'
  have hord := (le_of_scaled H3.out H4.out).2 hge
  have hcp : cmpN (val B32 zs) (val B32 zs') < 0 := by rw [HV.out, HV'.out, cmpN_lt hord]; decide
  have hll : zs.length ≤ zs'.length := Nat.le_of_not_lt fun h => by
    have := val_lt_of_len (B := B32) (by decide) (u32bd hrb) hzt h
    rw [hzv, hzv'] at this; omega
  have HORD : Hid (val B32 zs ≤ val B32 zs') := by simp only [Hid, HV.out, HV'.out]; omega
  have HOR := Lib.hid hord
  have HT := Lib.hid hzt
  have HT' := Lib.hid hzt'
  have hT1 : NT w1 113 (w.heap.size + 1 + 1) := NT.below (by have := NT.new ((w.alloc (.cells #[.bool nx, .slice A xs.length ca, .int .i64 ex] 72)).alloc (.cells #[.bool !nx, .slice B ys.length cb, .int .i64 ey] 72)) #[.bool false, .slice none 0 0, .int .i64 0] 72 113 (by decide); simpa using this) hbl
  clear hza hzb hzt hzt' hzv hzv' hzz hz3 hz4 hz1 h1 h2 hs hma hmb hord
  generalize hcq : cmpN (val B32 zs) (val B32 zs') = cq at hcp
  have HCQ := Lib.hid hcq
  clear hcq
  go_wp2_with fail
  refine (cmp_calls A' B' _ _ ca' cb' 113 113 base base zs zs' _ rfl rfl (hra.below (by repeat (first | exact Below.refl _ _ | apply below_new))) (hrb.below (by repeat (first | exact Below.refl _ _ | apply below_new))) (by omega) (by omega) HT.out HT'.out).mono ?_
  rintro r w9 ⟨rfl, q, rfl⟩
  rw [HCQ.out]
  go_wp2_with fail
  refine (minus_calls B' A' _ _ cb' ca' 113 113 base base base zs' zs _ rfl rfl (hrb.below (by repeat (first | exact Below.refl _ _ | (with_reducible refine Below.setCell ?_ (by simp) _) | (with_reducible apply below_drewN) | (with_reducible apply below_new)))) (hra.below (by repeat (first | exact Below.refl _ _ | (with_reducible refine Below.setCell ?_ (by simp) _) | (with_reducible apply below_drewN) | (with_reducible apply below_new)))) hll (by omega) HORD.out).mono ?_
  rintro r w2 ⟨v, rfl, hm, hb2⟩
  have HM := Lib.hid hm
  obtain ⟨ts, C, cc, hv, _, _, htt, htv⟩ := hm
  cases hv
  have hl : ((ts.length : Int) == 0) = false := by
    have hnn := htt.nil_iff (B := B32) (by decide)
    rw [htv, HV.out, HV'.out] at hnn
    have hor := HOR.out
    simp; intro h; have := hnn.1 (by rw [h]; rfl); omega
  clear htt htv
  obtain ⟨hc2, hf2⟩ := bcell hb2
  have hsz2 : w1.heap.size < w2.heap.size := by have := hb2.size; simp [World.drewN] at this; omega
  have hm1 : w.heap.size + 1 < w2.heap.size := by omega
  have hm0 : w.heap.size < w2.heap.size := by omega
  have hm2 : w.heap.size + 1 + 1 < w2.heap.size := by omega
  have hk1 : w.heap.size + 1 < w1.heap.size + 1 := by omega
  have hk0 : w.heap.size < w1.heap.size + 1 := by omega
  have hk2 : w.heap.size + 1 + 1 < w1.heap.size + 1 := by omega
  have hT2 : NT w2 113 w1.heap.size := (((NT.new w1 _ _ _ (by decide)).drewN _).set _ _ _).below hb2
  have hT3 : NT w2 113 (w.heap.size + 1 + 1) := (((hT1.alloc _).drewN _).set _ _ _).below hb2
  have hW2 : Below w.heap.size w w2 := below_next ((below_drewN (below_new hW1 _) _).setCell (by simp; omega) _) hb2
  go_wp2
  refine bodyPost_ret (v := .agg #[.bool (!nx), .slice C ts.length cc, .int .i64 e]) (by simp [results, Tryz.results26, go_sem, hc, hn0, hn1, hn2, hc2, hm0, hm1, hm2, hk0, hk1, hk2]) rfl ⟨[.bool (!nx), .slice C ts.length cc, .int .i64 e], rfl, ?_, (by repeat (first | exact hW2 | refine Below.setCell ?_ (by simp <;> omega) _))⟩
  refine ⟨(!nx), (val B32 zs' - val B32 zs), e, _, rfl, (by repeat (first | exact HM.out | refine mRd_setNT ?_ (by repeat (first | exact hT2 | exact hT3 | apply NT.set)) (by omega) _ _)), fun _ => H1.out, ⟨by have := H1.out; omega, hz2⟩, ?_⟩
  rw [HV.out, HV'.out]; exact (sg_diffv H3.out H4.out).2 (by have := HOR.out; omega)
theorem plus_num (K base L : Nat) (X Y : Int) (cx cy : List Value) (w : World) (hbase : base ≤ w.heap.size) (hx : (numRd K).R w base X cx) (hy : (numRd K).R w base Y cy)
    (hX : X.natAbs < 2 ^ L) (hY : Y.natAbs < 2 ^ L) (hL : L ≤ 1073741824) (hK : K ≤ 1073741824) :
    Calls Tryz.prog 26 #[.agg cx.toArray, .agg cy.toArray] w fun r w' => ∃ cs, r = .returned (.agg cs.toArray) ∧ (numRd K).R w' base (X + Y) cs ∧ Below w.heap.size w w' := by
  by_cases h0 : X = 0
  · exact plus_num_zl K base L X Y cx cy w hbase hx hy hX hY hL h0
  by_cases h1 : Y = 0
  · exact plus_num_zr K base L X Y cx cy w hbase hx hy hX hY hL h0 h1
  by_cases hs : (0 ≤ X ∧ 0 ≤ Y) ∨ (X ≤ 0 ∧ Y ≤ 0)
  · exact plus_num_same K base L X Y cx cy w hbase hx hy hX hY hL hK h0 h1 hs
  have hs' : (0 < X ∧ Y < 0) ∨ (X < 0 ∧ 0 < Y) := by omega
  rcases Nat.lt_trichotomy X.natAbs Y.natAbs with h | h | h
  · exact plus_num_lt K base L X Y cx cy w hbase hx hy hX hY hL hK h0 h1 hs' h
  · exact plus_num_eq K base L X Y cx cy w hbase hx hy hX hY hL hK h0 h1 hs' h.symm
  · exact plus_num_gt K base L X Y cx cy w hbase hx hy hX hY hL hK h0 h1 hs' h
end Go.Proofs.YtcfejobdgiiihaaGreatDoor

namespace Go.Proofs.YtcfejobdgiiihaaGreatDoor
open Go.RowKit

theorem numRd_setNT {K : Nat} {w : World} {base b : Nat} {X : Int} {cs : List Value} (h : (numRd K).R w base X cs) (hn : NT w 113 b) (hb : base ≤ b) (i : Nat) (u : Value) : (numRd K).R (w.setCell ⟨b, i, none⟩ u) base X cs :=
  (numRd K).keep h (Keeps.set_nt hn hb i u)
set_option maxHeartbeats 2000000 in
theorem minus_num (K base L : Nat) (X Y : Int) (cx cy : List Value) (w : World) (hbase : base ≤ w.heap.size) (hx : (numRd K).R w base X cx) (hy : (numRd K).R w base Y cy)
    (hX : X.natAbs < 2 ^ L) (hY : Y.natAbs < 2 ^ L) (hL : L ≤ 1073741824) (hK : K ≤ 1073741824) :
    Calls Tryz.prog 31 #[.agg cx.toArray, .agg cy.toArray] w fun r w' => ∃ cs, r = .returned (.agg cs.toArray) ∧ (numRd K).R w' base (X - Y) cs ∧ Below w.heap.size w w' := by
  have h1 := fun W (h : Below w.heap.size w W) => turned_calls K base Y cy W ((numRd K).below hy h)
  have h2 := fun W (h : Below w.heap.size w W) cz (hz : (numRd K).R W base (-Y) cz) => plus_num K base L X (-Y) cx cz W (Nat.le_trans hbase h.size) ((numRd K).below hx h) hz hX (by rw [Int.natAbs_neg]; exact hY) hL hK
  obtain ⟨nx, mx, ex, vx, rfl, hmx, hex, hbx, hXX⟩ := hx
  obtain ⟨ny, my, ey, vy, rfl, hmy, hey, hby, hYY⟩ := hy
  obtain ⟨xs, A, ca, hv, _⟩ := hmx
  obtain ⟨ys, B, cb, hv', _⟩ := hmy
  cases hv
  cases hv'
  have H1 := Lib.hid h1
  have H2 := Lib.hid h2
  clear h1 h2 hex hey hXX hYY hX hY
  have hne0 : ¬ w.heap.size = w.heap.size + 1 + 1 := by omega
  have hne1 : ¬ w.heap.size + 1 + 1 = w.heap.size := by omega
  go_enter Tryz.func31, Tryz.ntmps31
  go_wp2
  go_region_held3 (fun w' => w'.cell? ⟨w.heap.size, 0, none⟩ = some (.bool nx) ∧ w'.cell? ⟨w.heap.size, 1, none⟩ = some (.slice A xs.length ca) ∧ w'.cell? ⟨w.heap.size, 2, none⟩ = some (.int .i64 ex) ∧ w'.cell? ⟨w.heap.size + 1, 0, none⟩ = some (.bool ny) ∧ w'.cell? ⟨w.heap.size + 1, 1, none⟩ = some (.slice B ys.length cb) ∧ w'.cell? ⟨w.heap.size + 1, 2, none⟩ = some (.int .i64 ey)) (first | exact ⟨cell_kept hb2 (by go_simp), cell_kept hb2 (by go_simp), cell_kept hb2 (by go_simp), cell_kept hb2 (by go_simp), cell_kept hb2 (by go_simp), cell_kept hb2 (by go_simp)⟩ | exact ⟨cell_kept hb1 (by go_simp), cell_kept hb1 (by go_simp), cell_kept hb1 (by go_simp), cell_kept hb1 (by go_simp), cell_kept hb1 (by go_simp), cell_kept hb1 (by go_simp)⟩ | ((try dsimp only); (repeat' apply And.intro) <;> go_keep)) (first | (go_at_call 67; refine (H1.out _ (by repeat (first | exact Below.refl _ _ | (with_reducible apply Below.drew) | (with_reducible apply below_new)))).mono ?_; rintro e w1 ⟨cz, rfl, hz, hb1⟩) | (go_at_call 26; refine (H2.out _ (below_next (by repeat (first | exact Below.refl _ _ | (with_reducible apply Below.drew) | (with_reducible apply below_new))) hb1) cz hz).mono ?_; rintro e w2 ⟨cs, rfl, hcs, hb2⟩; have HC := Lib.hid hcs; obtain ⟨nz, mz, ez, vz, rfl, ⟨ts, C, cc, hvz, _⟩, _⟩ := hcs; cases hvz; obtain ⟨hc, hf⟩ := bcell hb2; obtain ⟨hc1, hf1⟩ := bcell hb1; have hn2 : w.heap.size + 1 + 1 < w1.heap.size := (by have := hb1.size; simp at this; omega)))
  have hT0 : NT ((w.alloc (.cells #[.bool nx, .slice A xs.length ca, .int .i64 ex] 72)).alloc (.cells #[.bool ny, .slice B ys.length cb, .int .i64 ey] 72) |>.alloc (.cells #[.bool false, .slice none 0 0, .int .i64 0] 72)) 113 (w.heap.size + 1 + 1) := by have := NT.new ((w.alloc (.cells #[.bool nx, .slice A xs.length ca, .int .i64 ex] 72)).alloc (.cells #[.bool ny, .slice B ys.length cb, .int .i64 ey] 72)) #[.bool false, .slice none 0 0, .int .i64 0] 72 113 (by decide); simpa using this
  have hT1 : NT w1 113 (w.heap.size + 1 + 1) := NT.below (NT.drew hT0) hb1
  have hT2 := hT1.below hb2
  have hW2 : Below w.heap.size w w2 := below_next (below_next (by repeat (first | exact Below.refl _ _ | (with_reducible apply Below.drew) | (with_reducible apply below_new))) hb1) hb2
  go_wp2
  refine bodyPost_ret (v := .agg #[.bool nz, .slice C ts.length cc, .int .i64 ez]) (by simp [results, Tryz.results31, go_sem, hc, hc1, hn2]) rfl ⟨[.bool nz, .slice C ts.length cc, .int .i64 ez], rfl, ?_, (by repeat (first | exact hW2 | refine Below.setCell ?_ (by simp <;> omega) _))⟩
  have HC2 := HC.out
  rw [← Int.sub_eq_add_neg] at HC2
  (repeat (first | exact HC2 | refine numRd_setNT ?_ (by repeat (first | exact hT2 | apply NT.set)) (by omega) _ _))

set_option maxHeartbeats 400000 in
theorem cmp_num (K base L : Nat) (X Y : Int) (cx cy : List Value) (w : World) (hbase : base ≤ w.heap.size) (hx : (numRd K).R w base X cx) (hy : (numRd K).R w base Y cy)
    (hX : X.natAbs < 2 ^ L) (hY : Y.natAbs < 2 ^ L) (hL : L ≤ 1073741824) (hK : K ≤ 1073741824) :
    Calls Tryz.prog 30 #[.agg cx.toArray, .agg cy.toArray] w fun r w' => r = .returned (.int .i64 (Int.sign (X - Y))) ∧ Below w.heap.size w w' := by
  have h1 := fun W (h : Below w.heap.size w W) => minus_num K base L X Y cx cy W (Nat.le_trans hbase h.size) ((numRd K).below hx h) ((numRd K).below hy h) hX hY hL hK
  obtain ⟨nx, mx, ex, vx, rfl, hmx, hex, hbx, hXX⟩ := hx
  obtain ⟨ny, my, ey, vy, rfl, hmy, hey, hby, hYY⟩ := hy
  obtain ⟨xs, A, ca, hv, _⟩ := hmx
  obtain ⟨ys, B, cb, hv', _⟩ := hmy
  cases hv
  cases hv'
  have H1 := Lib.hid h1
  clear h1 hex hey hXX hYY hX hY
  go_enter Tryz.func30, Tryz.ntmps30
  go_wp2_with fail
  refine (H1.out _ (by repeat (first | exact Below.refl _ _ | (with_reducible apply below_new)))).mono ?_
  rintro e w1 ⟨cz, rfl, hz, hb1⟩
  have hs := sign_calls K base (X - Y) cz w1 hz
  have HS := Lib.hid hs
  clear hs hz
  have HB := Lib.hid hb1
  clear hb1
  go_wp2_with fail
  refine HS.out.mono ?_
  rintro e w2 ⟨rfl, hb2⟩
  go_wp2
  go_ret
  exact ⟨rfl, below_next (below_next (by repeat (first | exact Below.refl _ _ | (with_reducible apply below_new))) HB.out) hb2⟩

theorem sg_mul (nx ny : Bool) (a b j k : Nat) : sg nx (a * 2 ^ j) * sg ny (b * 2 ^ k) = sg (nx != ny) (a * b * 2 ^ (j + k)) := by
  have e : a * b * 2 ^ (j + k) = a * 2 ^ j * (b * 2 ^ k) := by rw [Nat.pow_add]; simp only [Nat.mul_assoc, Nat.mul_left_comm, Nat.mul_comm]
  rw [e]
  generalize a * 2 ^ j = p
  generalize b * 2 ^ k = q
  cases nx <;> cases ny <;> simp [sg, Int.neg_mul, Int.mul_neg]
set_option maxHeartbeats 2000000 in
theorem times_num (K J base L : Nat) (X Y : Int) (cx cy : List Value) (w : World) (hbase : base ≤ w.heap.size) (hx : (numRd K).R w base X cx) (hy : (numRd J).R w base Y cy)
    (hX : X.natAbs < 2 ^ L) (hY : Y.natAbs < 2 ^ L) (hL : L ≤ 1073741824) (hK : K ≤ 1073741824) (hJ : J ≤ 1073741824) :
    Calls Tryz.prog 27 #[.agg cx.toArray, .agg cy.toArray] w fun r w' => ∃ cs, r = .returned (.agg cs.toArray) ∧ (numRd (K + J)).R w' base (X * Y) cs ∧ Below w.heap.size w w' := by
  obtain ⟨nx, mx, ex, vx, rfl, hmx, hex, hbx, hXX⟩ := hx
  obtain ⟨ny, my, ey, vy, rfl, hmy, hey, hby, hYY⟩ := hy
  have hexl := fun h => exp_lt (m := mx) h (hXX ▸ hX)
  have heyl := fun h => exp_lt (m := my) h (hYY ▸ hY)
  have hmlx := man_lt (hXX ▸ hX)
  have hmly := man_lt (hYY ▸ hY)
  obtain ⟨xs, A, ca, hv, hxc, hxr, hxt, hxv⟩ := hmx
  obtain ⟨ys, B, cb, hv', hyc, hyr, hyt, hyv⟩ := hmy
  cases hv
  cases hv'
  have hlx := man_len hxt hxv hmlx
  have hly := man_len hyt hyv hmly
  have hzx := hxt.nil_iff (B := B32) (by decide)
  have hzy := hyt.nil_iff (B := B32) (by decide)
  rw [hxv] at hzx
  rw [hyv] at hzy
  clear hX hY hmlx hmly
  by_cases h0 : mx = 0
  · have hz : ((xs.length : Int) == 0) = true := by simp; exact List.length_eq_zero_iff.1 (hzx.2 h0)
    have HZ : Hid (X * Y = 0) := by simp only [Hid]; rw [hXX, h0, Nat.zero_mul, sg_zero, Int.zero_mul]
    clear hxv hyv hxt hyt hzx hzy hXX hYY hex hey hexl heyl h0
    go_enter Tryz.func27, Tryz.ntmps27
    go_wp2
    refine bodyPost_ret (v := .agg #[.bool false, .slice none 0 0, .int .i64 0]) (by simp [results, Tryz.results27, go_sem]) rfl ⟨[.bool false, .slice none 0 0, .int .i64 0], rfl, ⟨false, 0, 0, _, rfl, mRd_nil _ _ _ _, fun h => absurd rfl h, by omega, by rw [HZ.out, Nat.zero_mul, sg_zero]⟩, (by repeat (first | exact Below.refl _ _ | refine Below.setCell ?_ (by simp <;> omega) _ | (with_reducible apply below_new)))⟩
  by_cases h1 : my = 0
  · have hz0 : ((xs.length : Int) == 0) = false := by simp; exact fun h => h0 (hzx.1 (by rw [h]; rfl))
    have hz : ((ys.length : Int) == 0) = true := by simp; exact List.length_eq_zero_iff.1 (hzy.2 h1)
    have HZ : Hid (X * Y = 0) := by simp only [Hid]; rw [hYY, h1, Nat.zero_mul, sg_zero, Int.mul_zero]
    clear hxv hyv hxt hyt hzx hzy hXX hYY hex hey hexl heyl h0 h1
    go_enter Tryz.func27, Tryz.ntmps27
    go_wp2
    refine bodyPost_ret (v := .agg #[.bool false, .slice none 0 0, .int .i64 0]) (by simp [results, Tryz.results27, go_sem]) rfl ⟨[.bool false, .slice none 0 0, .int .i64 0], rfl, ⟨false, 0, 0, _, rfl, mRd_nil _ _ _ _, fun h => absurd rfl h, by omega, by rw [HZ.out, Nat.zero_mul, sg_zero]⟩, (by repeat (first | exact Below.refl _ _ | refine Below.setCell ?_ (by simp <;> omega) _ | (with_reducible apply below_new)))⟩
  · have hz0 : ((xs.length : Int) == 0) = false := by simp; exact fun h => h0 (hzx.1 (by rw [h]; rfl))
    have hz : ((ys.length : Int) == 0) = false := by simp; exact fun h => h1 (hzy.1 (by rw [h]; rfl))
    have hex := hex h0
    have hey := hey h1
    have hexl := hexl h0
    have heyl := heyl h1
    have hsum : IntKind.i64.wrap (ex + ey) = ex + ey := IntWalk.i64_in _ (by omega)
    have HZ : Hid (X * Y = sg (nx != ny) (val B32 xs * val B32 ys * 2 ^ (ex + ey + (K + J : Nat)).toNat)) := by
      simp only [Hid]; rw [hXX, hYY, sg_mul, hxv, hyv, show (ex + K).toNat + (ey + J).toNat = (ex + ey + (K + J : Nat)).toNat from by omega]
    have hne0 : ¬ w.heap.size = w.heap.size + 1 + 1 := by omega
    have hne1 : ¬ w.heap.size + 1 + 1 = w.heap.size := by omega
    have HE : Hid (0 ≤ ex + ey + (K + J : Nat) ∧ -1099511627776 ≤ ex + ey ∧ ex + ey ≤ 1099511627776) := by simp only [Hid]; omega
    have HR1 : Hid (∀ W, Below w.heap.size w W → u32.Row 113 W base A xs) := fun W h => hxr.below h
    have HR2 : Hid (∀ W, Below w.heap.size w W → u32.Row 113 W base B ys) := fun W h => hyr.below h
    clear hxv hyv hxt hyt hzx hzy hXX hYY hex hey hexl heyl h0 h1 hxr hyr
    go_enter Tryz.func27, Tryz.ntmps27
    go_wp2
    go_region_held3 (fun w' => w'.cell? ⟨w.heap.size, 0, none⟩ = some (.bool nx) ∧ w'.cell? ⟨w.heap.size, 1, none⟩ = some (.slice A xs.length ca) ∧ w'.cell? ⟨w.heap.size, 2, none⟩ = some (.int .i64 ex) ∧ w'.cell? ⟨w.heap.size + 1, 0, none⟩ = some (.bool ny) ∧ w'.cell? ⟨w.heap.size + 1, 1, none⟩ = some (.slice B ys.length cb) ∧ w'.cell? ⟨w.heap.size + 1, 2, none⟩ = some (.int .i64 ey)) (first | exact ⟨cell_kept hb2 (by go_simp), cell_kept hb2 (by go_simp), cell_kept hb2 (by go_simp), cell_kept hb2 (by go_simp), cell_kept hb2 (by go_simp), cell_kept hb2 (by go_simp)⟩ | ((try dsimp only); (repeat' apply And.intro) <;> go_keep)) (first | (go_at_call 63; refine (times_calls A B _ _ ca cb 113 113 base base base xs ys _ rfl rfl (HR1.out _ (by repeat (first | exact Below.refl _ _ | (with_reducible apply Below.drew) | (with_reducible apply below_new)))) (HR2.out _ (by repeat (first | exact Below.refl _ _ | (with_reducible apply Below.drew) | (with_reducible apply below_new)))) (by omega) (by omega)).mono ?_; rintro e w2 ⟨v, rfl, hm, hb2⟩; have HM := Lib.hid hm; obtain ⟨ts, C, cc, hvz, _⟩ := hm; cases hvz; obtain ⟨hc, hf⟩ := bcell hb2))
    have hT0 : NT ((w.alloc (.cells #[.bool nx, .slice A xs.length ca, .int .i64 ex] 72)).alloc (.cells #[.bool ny, .slice B ys.length cb, .int .i64 ey] 72) |>.alloc (.cells #[.bool false, .slice none 0 0, .int .i64 0] 72)) 113 (w.heap.size + 1 + 1) := by have := NT.new ((w.alloc (.cells #[.bool nx, .slice A xs.length ca, .int .i64 ex] 72)).alloc (.cells #[.bool ny, .slice B ys.length cb, .int .i64 ey] 72)) #[.bool false, .slice none 0 0, .int .i64 0] 72 113 (by decide); simpa using this
    have hT1 : NT w2 113 (w.heap.size + 1 + 1) := NT.below (NT.drew hT0) hb2
    have hW2 : Below w.heap.size w w2 := below_next (by repeat (first | exact Below.refl _ _ | (with_reducible apply Below.drew) | (with_reducible apply below_new))) hb2
    go_wp2
    refine bodyPost_ret (v := .agg #[.bool (nx != ny), .slice C ts.length cc, .int .i64 (ex + ey)]) (by simp [results, Tryz.results27, go_sem, hc] <;> (cases nx <;> cases ny <;> rfl)) rfl ⟨[.bool (nx != ny), .slice C ts.length cc, .int .i64 (ex + ey)], rfl, ?_, (by repeat (first | exact hW2 | refine Below.setCell ?_ (by simp <;> omega) _))⟩
    exact ⟨_, (val B32 xs * val B32 ys), _, _, rfl, (by repeat (first | exact HM.out | refine mRd_setNT ?_ (by repeat (first | exact hT1 | apply NT.set)) (by omega) _ _)), fun _ => HE.out.1, HE.out.2, HZ.out⟩
end Go.Proofs.YtcfejobdgiiihaaGreatDoor


namespace Go.Proofs.YtcfejobdgiiihaaGreatDoor
open Go.RowKit

/-! ### rounding: the last step -/
theorem bits_lsb {h : Nat} (hh : h < 18446744073709551616) : bits .and .u64 (h : Int) 1 = ((h % 2 : Nat) : Int) := by
  rw [show (1 : Int) = ((2 ^ 1 - 1 : Nat) : Int) from by decide, u64_and_nat _ _ hh (by decide), Nat.and_two_pow_sub_one_eq_mod]
theorem bits_pack {e : Int} {q : Nat} (h0 : 0 ≤ e) (h1 : e < 2048) (hq : q < 4503599627370496) : bits .or .u64 (e * 4503599627370496) (q : Int) = ((e.toNat * 4503599627370496 + q : Nat) : Int) := by
  obtain ⟨n, rfl⟩ := Int.eq_ofNat_of_zero_le h0
  have e1 : (n : Int) * 4503599627370496 = ((n * 4503599627370496 : Nat) : Int) := by omega
  rw [e1, u64_or_nat _ _ (by omega) (by omega)]
  have := or_add_low (z := q) (y := n * 4503599627370496) (r := 52) hq (by omega)
  rw [Nat.or_comm, this]; simp [Nat.add_comm]
theorem bits_top {p : Nat} (hp : p < 9223372036854775808) : bits .or .u64 (p : Int) 9223372036854775808 = ((p + 9223372036854775808 : Nat) : Int) := by
  rw [show (9223372036854775808 : Int) = ((9223372036854775808 : Nat) : Int) from rfl, u64_or_nat _ _ (by omega) (by omega), or_add_low (r := 63) hp (by omega)]
theorem bits_fmask {q : Nat} (h1 : 4503599627370496 ≤ q) (h2 : q < 9007199254740992) : bits .and .u64 (q : Int) 4503599627370495 = ((q - 4503599627370496 : Nat) : Int) := by
  have e : q % 4503599627370496 = q - 4503599627370496 := by omega
  rw [bits_fman (by omega), e]
/-- a number's bits: q parts of 2^e -/
def sgnB (neg : Bool) : Nat := if neg then 9223372036854775808 else 0
def packB (neg : Bool) (q : Nat) (e : Int) : Nat :=
  if 4503599627370496 ≤ q then (e + 1075).toNat * 4503599627370496 + (q - 4503599627370496) + sgnB neg else if 0 < q then q + sgnB neg else 0
def finD (neg : Bool) (q : Nat) (e : Int) : Option Nat := if 971 < e then (if neg then none else some 9218868437227405311) else some (packB neg q e)
def downEnd (neg : Bool) (q : Nat) (e : Int) : Option Nat := if q = 9007199254740992 then finD neg 4503599627370496 (e + 1) else finD neg q e
def optRet (o : Option Nat) : Ending := .returned (.tuple #[.int .u64 (o.getD 0 : Nat), .bool o.isSome])
theorem ret_opt {a : Int} {o : Option Nat} {x : Nat} (h : o = some x) (ha : a = x) : Ending.returned (.tuple #[.int .u64 a, .bool true]) = optRet o := by subst h ha; rfl
theorem ret_none {o : Option Nat} (h : o = none) : Ending.returned (.tuple #[.int .u64 0, .bool false]) = optRet o := by subst h; rfl
theorem finD_big {neg : Bool} {q : Nat} {e : Int} (he : 971 < e) : finD neg q e = if neg then none else some 9218868437227405311 := by unfold finD; rw [if_pos he]
theorem finD_norm {neg : Bool} {q : Nat} {e : Int} (he : ¬ 971 < e) (hq : 4503599627370496 ≤ q) : finD neg q e = some (((e + 1075).toNat * 4503599627370496 + (q - 4503599627370496)) + sgnB neg) := by
  unfold finD packB; rw [if_neg he, if_pos hq]
theorem finD_sub {neg : Bool} {q : Nat} {e : Int} (he : ¬ 971 < e) (hq : q < 4503599627370496) (h0 : 0 < q) : finD neg q e = some (q + sgnB neg) := by
  unfold finD packB; rw [if_neg he, if_neg (by omega), if_pos h0]
theorem finD_zero {neg : Bool} {e : Int} (he : ¬ 971 < e) : finD neg 0 e = some 0 := by
  unfold finD packB; rw [if_neg he, if_neg (by omega), if_neg (by omega)]
theorem bits_top' {p : Int} {q : Nat} (hp : q < 9223372036854775808) (h : p = q) : bits .or .u64 p 9223372036854775808 = ((q + sgnB true : Nat) : Int) := by
  subst h; exact bits_top hp

set_option maxHeartbeats 4000000 in
set_option maxRecDepth 100000 in
theorem told_p (rest : Bool) (h q : Nat) (e : Int) (w : World) (hh : h < 18014398509481984) (hq : h / 2 = q) (he : -1074 ≤ e) (he2 : e ≤ 1099511627776) :
    Calls Tryz.prog 70 #[.int .i64 2, .bool false, .int .u64 h, .bool rest, .int .i64 e] w fun r w' => r = optRet (downEnd false (q) e) ∧ w = w' := by
  have h2 : (h : Int) / 2 = (q : Int) := by omega
  have hqb : q < 9007199254740992 := by omega
  have HQ := Lib.hid hq
  clear hq
  by_cases hA : q = 9007199254740992
  · omega
  · have hF : downEnd false (q) e = finD false (q) e := by unfold downEnd; rw [if_neg hA]
    have hA' : ((q : Int) == 9007199254740992) = false := by simp; omega
    have hq1 : q < 9007199254740992 := by omega
    by_cases hE : 971 < e
    · have HR : Hid (downEnd false (q) e = some 9218868437227405311) := by rw [Hid, hF, finD_big hE]; rfl
      clear hA hF
      go_enter Tryz.func70, Tryz.ntmps70
      go_wp2
      all_goals
        go_ret2
        exact ⟨ret_opt HR.out rfl, rfl⟩
    · by_cases hN : 4503599627370496 ≤ q
      · obtain ⟨P, hP⟩ : ∃ P, P = (e + 1075).toNat * 4503599627370496 + (q - 4503599627370496) := ⟨_, rfl⟩
        have HR : Hid (downEnd false (q) e = some (P + sgnB false)) := by rw [Hid, hF, finD_norm hE hN, hP]
        have hm := bits_fmask hN hq1
        have ho := bits_pack (e := e + 1075) (q := q - 4503599627370496) (by omega) (by omega) (by omega)
        try simp only [Int.natCast_add, Int.cast_ofNat_Int] at hm
        rw [← hm, ← hP] at ho
        have hP0 : 0 < P := by omega
        have hPb : P < 9223372036854775808 := by omega
        clear hP hm hA hF
        go_enter Tryz.func70, Tryz.ntmps70
        go_wp2
        go_ret2
        exact ⟨ret_opt HR.out rfl, rfl⟩
      · have HR : Hid (downEnd false q e = some q) := by
          rw [Hid, hF]
          rcases Nat.eq_zero_or_pos q with h | h
          · subst h; exact finD_zero hE
          · rw [finD_sub hE (by omega) h]; rfl
        clear hA hF
        go_enter Tryz.func70, Tryz.ntmps70
        go_wp2
        all_goals
          go_ret2
          exact ⟨ret_opt HR.out rfl, rfl⟩

set_option maxHeartbeats 4000000 in
set_option maxRecDepth 100000 in
theorem told_h (rest : Bool) (h q : Nat) (e : Int) (w : World) (hh : h < 18014398509481984) (hq : h / 2 = q) (he : -1074 ≤ e) (he2 : e ≤ 1099511627776) (hb : h % 2 = 1) :
    Calls Tryz.prog 70 #[.int .i64 2, .bool true, .int .u64 h, .bool rest, .int .i64 e] w fun r w' => r = optRet (downEnd true (q + 1) e) ∧ w = w' := by
  have h1 := bits_lsb (h := h) (by omega)
  rw [hb] at h1
  have h2 : (h : Int) / 2 = (q : Int) := by omega
  have hqb : q < 9007199254740992 := by omega
  have HQ := Lib.hid hq
  clear hb hq
  by_cases hA : q + 1 = 9007199254740992
  · have hF : downEnd true (q + 1) e = finD true 4503599627370496 (e + 1) := by unfold downEnd; rw [if_pos hA]
    by_cases hE : 971 < e + 1
    · have HR : Hid (downEnd true (q + 1) e = none) := by rw [Hid, hF, finD_big hE]; rfl
      obtain rfl : q = 9007199254740991 := by omega
      clear hA hF
      go_enter Tryz.func70, Tryz.ntmps70
      go_wp2
      go_ret2
      exact ⟨ret_none HR.out, rfl⟩
    · obtain ⟨P, hP⟩ : ∃ P, P = (e + 1 + 1075).toNat * 4503599627370496 := ⟨_, rfl⟩
      have HR : Hid (downEnd true (q + 1) e = some (P + sgnB true)) := by rw [Hid, hF, finD_norm hE (by omega), hP, Nat.sub_self, Nat.add_zero]
      have ho := bits_pack (e := e + 1 + 1075) (q := 0) (by omega) (by omega) (by decide)
      simp only [Int.natCast_zero, Nat.add_zero] at ho
      rw [← hP] at ho
      have hP0 : 0 < P := by omega
      have hPb : P < 9223372036854775808 := by omega
      have hk : bits BinOp.and IntKind.u64 4503599627370496 4503599627370495 = 0 := by decide
      obtain rfl : q = 9007199254740991 := by omega
      clear hP hA hF
      go_enter Tryz.func70, Tryz.ntmps70
      go_wp2
      go_ret2
      exact ⟨ret_opt HR.out (bits_top' hPb rfl), rfl⟩
  · have hF : downEnd true (q + 1) e = finD true (q + 1) e := by unfold downEnd; rw [if_neg hA]
    have hA' : ((q : Int) + 1 == 9007199254740992) = false := by simp; omega
    have hq1 : q + 1 < 9007199254740992 := by omega
    by_cases hE : 971 < e
    · have HR : Hid (downEnd true (q + 1) e = none) := by rw [Hid, hF, finD_big hE]; rfl
      clear hA hF
      go_enter Tryz.func70, Tryz.ntmps70
      go_wp2
      all_goals
        go_ret2
        exact ⟨ret_none HR.out, rfl⟩
    · by_cases hN : 4503599627370496 ≤ q + 1
      · obtain ⟨P, hP⟩ : ∃ P, P = (e + 1075).toNat * 4503599627370496 + (q + 1 - 4503599627370496) := ⟨_, rfl⟩
        have HR : Hid (downEnd true (q + 1) e = some (P + sgnB true)) := by rw [Hid, hF, finD_norm hE hN, hP]
        have hm := bits_fmask hN hq1
        have ho := bits_pack (e := e + 1075) (q := q + 1 - 4503599627370496) (by omega) (by omega) (by omega)
        try simp only [Int.natCast_add, Int.cast_ofNat_Int] at hm
        rw [← hm, ← hP] at ho
        have hP0 : 0 < P := by omega
        have hPb : P < 9223372036854775808 := by omega
        clear hP hm hA hF
        go_enter Tryz.func70, Tryz.ntmps70
        go_wp2
        go_ret2
        exact ⟨ret_opt HR.out (bits_top' hPb rfl), rfl⟩
      · by_cases h0 : q + 1 = 0
        · have HR : Hid (downEnd true (q + 1) e = some 0) := by rw [Hid, hF, h0, finD_zero hE]
          omega
        · have HR : Hid (downEnd true (q + 1) e = some ((q + 1) + sgnB true)) := by rw [Hid, hF, finD_sub hE (by omega) (by omega)]
          obtain ⟨P, hP⟩ : ∃ P, P = q + 1 := ⟨_, rfl⟩
          have hPi : (q : Int) + 1 = (P : Int) := by omega
          have HP := Lib.hid hP
          rw [← hP] at hq1 hN
          have hP0 : 0 < P := by omega
          have hPb : P < 4503599627370496 := by omega
          have hPn : ¬ 4503599627370496 ≤ (P : Int) := by omega
          clear hP hA hF h0 hN
          go_enter Tryz.func70, Tryz.ntmps70
          go_wp2
          go_ret2
          exact ⟨ret_opt HR.out (bits_top' (by have := HP.out; omega) (by have := HP.out; omega)), rfl⟩

set_option maxHeartbeats 4000000 in
set_option maxRecDepth 100000 in
theorem told_r (rest : Bool) (h q : Nat) (e : Int) (w : World) (hh : h < 18014398509481984) (hq : h / 2 = q) (he : -1074 ≤ e) (he2 : e ≤ 1099511627776) (hb : h % 2 = 0) (hr : rest = true) :
    Calls Tryz.prog 70 #[.int .i64 2, .bool true, .int .u64 h, .bool rest, .int .i64 e] w fun r w' => r = optRet (downEnd true (q + 1) e) ∧ w = w' := by
  subst hr
  have h1 := bits_lsb (h := h) (by omega)
  rw [hb] at h1
  have h2 : (h : Int) / 2 = (q : Int) := by omega
  have hqb : q < 9007199254740992 := by omega
  have HQ := Lib.hid hq
  clear hb hq
  by_cases hA : q + 1 = 9007199254740992
  · have hF : downEnd true (q + 1) e = finD true 4503599627370496 (e + 1) := by unfold downEnd; rw [if_pos hA]
    by_cases hE : 971 < e + 1
    · have HR : Hid (downEnd true (q + 1) e = none) := by rw [Hid, hF, finD_big hE]; rfl
      obtain rfl : q = 9007199254740991 := by omega
      clear hA hF
      go_enter Tryz.func70, Tryz.ntmps70
      go_wp2
      go_ret2
      exact ⟨ret_none HR.out, rfl⟩
    · obtain ⟨P, hP⟩ : ∃ P, P = (e + 1 + 1075).toNat * 4503599627370496 := ⟨_, rfl⟩
      have HR : Hid (downEnd true (q + 1) e = some (P + sgnB true)) := by rw [Hid, hF, finD_norm hE (by omega), hP, Nat.sub_self, Nat.add_zero]
      have ho := bits_pack (e := e + 1 + 1075) (q := 0) (by omega) (by omega) (by decide)
      simp only [Int.natCast_zero, Nat.add_zero] at ho
      rw [← hP] at ho
      have hP0 : 0 < P := by omega
      have hPb : P < 9223372036854775808 := by omega
      have hk : bits BinOp.and IntKind.u64 4503599627370496 4503599627370495 = 0 := by decide
      obtain rfl : q = 9007199254740991 := by omega
      clear hP hA hF
      go_enter Tryz.func70, Tryz.ntmps70
      go_wp2
      go_ret2
      exact ⟨ret_opt HR.out (bits_top' hPb rfl), rfl⟩
  · have hF : downEnd true (q + 1) e = finD true (q + 1) e := by unfold downEnd; rw [if_neg hA]
    have hA' : ((q : Int) + 1 == 9007199254740992) = false := by simp; omega
    have hq1 : q + 1 < 9007199254740992 := by omega
    by_cases hE : 971 < e
    · have HR : Hid (downEnd true (q + 1) e = none) := by rw [Hid, hF, finD_big hE]; rfl
      clear hA hF
      go_enter Tryz.func70, Tryz.ntmps70
      go_wp2
      all_goals
        go_ret2
        exact ⟨ret_none HR.out, rfl⟩
    · by_cases hN : 4503599627370496 ≤ q + 1
      · obtain ⟨P, hP⟩ : ∃ P, P = (e + 1075).toNat * 4503599627370496 + (q + 1 - 4503599627370496) := ⟨_, rfl⟩
        have HR : Hid (downEnd true (q + 1) e = some (P + sgnB true)) := by rw [Hid, hF, finD_norm hE hN, hP]
        have hm := bits_fmask hN hq1
        have ho := bits_pack (e := e + 1075) (q := q + 1 - 4503599627370496) (by omega) (by omega) (by omega)
        try simp only [Int.natCast_add, Int.cast_ofNat_Int] at hm
        rw [← hm, ← hP] at ho
        have hP0 : 0 < P := by omega
        have hPb : P < 9223372036854775808 := by omega
        clear hP hm hA hF
        go_enter Tryz.func70, Tryz.ntmps70
        go_wp2
        go_ret2
        exact ⟨ret_opt HR.out (bits_top' hPb rfl), rfl⟩
      · by_cases h0 : q + 1 = 0
        · have HR : Hid (downEnd true (q + 1) e = some 0) := by rw [Hid, hF, h0, finD_zero hE]
          omega
        · have HR : Hid (downEnd true (q + 1) e = some ((q + 1) + sgnB true)) := by rw [Hid, hF, finD_sub hE (by omega) (by omega)]
          obtain ⟨P, hP⟩ : ∃ P, P = q + 1 := ⟨_, rfl⟩
          have hPi : (q : Int) + 1 = (P : Int) := by omega
          have HP := Lib.hid hP
          rw [← hP] at hq1 hN
          have hP0 : 0 < P := by omega
          have hPb : P < 4503599627370496 := by omega
          have hPn : ¬ 4503599627370496 ≤ (P : Int) := by omega
          clear hP hA hF h0 hN
          go_enter Tryz.func70, Tryz.ntmps70
          go_wp2
          go_ret2
          exact ⟨ret_opt HR.out (bits_top' (by have := HP.out; omega) (by have := HP.out; omega)), rfl⟩

set_option maxHeartbeats 4000000 in
set_option maxRecDepth 100000 in
theorem told_n (rest : Bool) (h q : Nat) (e : Int) (w : World) (hh : h < 18014398509481984) (hq : h / 2 = q) (he : -1074 ≤ e) (he2 : e ≤ 1099511627776) (hb : h % 2 = 0) (hr : rest = false) :
    Calls Tryz.prog 70 #[.int .i64 2, .bool true, .int .u64 h, .bool rest, .int .i64 e] w fun r w' => r = optRet (downEnd true (q) e) ∧ w = w' := by
  subst hr
  have h1 := bits_lsb (h := h) (by omega)
  rw [hb] at h1
  have h2 : (h : Int) / 2 = (q : Int) := by omega
  have hqb : q < 9007199254740992 := by omega
  have HQ := Lib.hid hq
  clear hb hq
  by_cases hA : q = 9007199254740992
  · omega
  · have hF : downEnd true (q) e = finD true (q) e := by unfold downEnd; rw [if_neg hA]
    have hA' : ((q : Int) == 9007199254740992) = false := by simp; omega
    have hq1 : q < 9007199254740992 := by omega
    by_cases hE : 971 < e
    · have HR : Hid (downEnd true (q) e = none) := by rw [Hid, hF, finD_big hE]; rfl
      clear hA hF
      go_enter Tryz.func70, Tryz.ntmps70
      go_wp2
      all_goals
        go_ret2
        exact ⟨ret_none HR.out, rfl⟩
    · by_cases hN : 4503599627370496 ≤ q
      · obtain ⟨P, hP⟩ : ∃ P, P = (e + 1075).toNat * 4503599627370496 + (q - 4503599627370496) := ⟨_, rfl⟩
        have HR : Hid (downEnd true (q) e = some (P + sgnB true)) := by rw [Hid, hF, finD_norm hE hN, hP]
        have hm := bits_fmask hN hq1
        have ho := bits_pack (e := e + 1075) (q := q - 4503599627370496) (by omega) (by omega) (by omega)
        try simp only [Int.natCast_add, Int.cast_ofNat_Int] at hm
        rw [← hm, ← hP] at ho
        have hP0 : 0 < P := by omega
        have hPb : P < 9223372036854775808 := by omega
        clear hP hm hA hF
        go_enter Tryz.func70, Tryz.ntmps70
        go_wp2
        go_ret2
        exact ⟨ret_opt HR.out (bits_top' hPb rfl), rfl⟩
      · by_cases h0 : q = 0
        · have HR : Hid (downEnd true (q) e = some 0) := by rw [Hid, hF, h0, finD_zero hE]
          have hq0 := h0
          subst hq0
          clear hA hF hN
          go_enter Tryz.func70, Tryz.ntmps70
          go_wp2
          go_ret2
          exact ⟨ret_opt HR.out rfl, rfl⟩
        · have HR : Hid (downEnd true (q) e = some ((q) + sgnB true)) := by rw [Hid, hF, finD_sub hE (by omega) (by omega)]
          obtain ⟨P, hP⟩ : ∃ P, P = q := ⟨_, rfl⟩
          have hPi : (q : Int) = (P : Int) := by omega
          rw [← hP] at HR hq1 hN
          have hP0 : 0 < P := by omega
          have hPb : P < 4503599627370496 := by omega
          have hPn : ¬ 4503599627370496 ≤ (P : Int) := by omega
          subst hP
          clear hPi
          clear hA hF h0 hN
          go_enter Tryz.func70, Tryz.ntmps70
          go_wp2
          go_ret2
          exact ⟨ret_opt HR.out (bits_top' (by omega) rfl), rfl⟩

/-- how many at the end, rounded down -/
def moreD (neg rest : Bool) (h : Nat) : Nat := if neg && (decide (h % 2 = 1) || rest) then 1 else 0
theorem told_calls (neg rest : Bool) (h : Nat) (e : Int) (w : World) (hh : h < 18014398509481984) (he : -1074 ≤ e) (he2 : e ≤ 1099511627776) :
    Calls Tryz.prog 70 #[.int .i64 2, .bool neg, .int .u64 h, .bool rest, .int .i64 e] w fun r w' => r = optRet (downEnd neg (h / 2 + moreD neg rest h) e) ∧ w = w' := by
  cases neg
  · exact told_p rest h _ e w hh rfl he he2
  · rcases Nat.mod_two_eq_zero_or_one h with hb | hb
    · cases rest
      · have : moreD true false h = 0 := by simp [moreD, hb]
        rw [this]; exact told_n _ h _ e w hh rfl he he2 hb rfl
      · have : moreD true true h = 1 := by simp [moreD]
        rw [this]; exact told_r _ h _ e w hh rfl he he2 hb rfl
    · have : moreD true rest h = 1 := by simp [moreD, hb]
      rw [this]; exact told_h rest h _ e w hh rfl he he2 hb
end Go.Proofs.YtcfejobdgiiihaaGreatDoor
