/- Walks and plain laws of this seat's functions, part 46: R6. -/
import Derived.Test.YtogjodnmegafdaaGreatFmtJ41
set_option linter.unusedVariables false
set_option linter.unusedSimpArgs false
namespace Go.Proofs.YtogjodnmegafdaaGreatFmt
open Go.RowKit

/-! ### Part, the walk -/
theorem or_bit {y t : Nat} (ht : t < 32) (hy : y % 2 ^ (t + 1) = 0) (hs : y + 2 ^ t < 4294967296) : bits .or .u32 (y : Int) ((2 : Int) ^ t % 4294967296) = ((y + 2 ^ t : Nat) : Int) := by
  have hp : 2 ^ t < 2 ^ (t + 1) := Nat.pow_lt_pow_right (by decide) (by omega)
  have hl : 2 ^ t < 4294967296 := by omega
  have e : (2 : Int) ^ t % 4294967296 = ((2 ^ t : Nat) : Int) := by
    have : (2 : Int) ^ t = ((2 ^ t : Nat) : Int) := by simp [Int.natCast_pow]
    rw [this]; omega
  rw [e, u32_or_nat _ _ (by omega) hl, Nat.or_comm, or_add_low hp hy, Nat.add_comm]
set_option maxHeartbeats 4000000 in
set_option maxRecDepth 100000 in
theorem part_calls (K base L : Nat) (ex ey : Int) (mx my : Nat) (vx vy : Value) (w : World) (hbase : base ≤ w.heap.size) (hx : mRd.R w base mx [vx]) (hy : mRd.R w base my [vy]) (h0x : mx ≠ 0) (h0y : my ≠ 0)
    (hex : 0 ≤ ex + K) (hey : 0 ≤ ey + K) (hbx : -1099511627776 ≤ ex ∧ ex ≤ 1099511627776) (hby : -1099511627776 ≤ ey ∧ ey ≤ 1099511627776)
    (hX : (sg false (mx * 2 ^ (ex + K).toNat)).natAbs < 2 ^ L) (hY : (sg false (my * 2 ^ (ey + K).toNat)).natAbs < 2 ^ L) (hL : L ≤ 1073741824) (A B : Nat) (hA : mx * 2 ^ (ex + K).toNat = A) (hB : my * 2 ^ (ey + K).toNat = B) :
    Calls Tryz.prog 107 #[.agg #[.bool false, vx, .int .i64 ex], .agg #[.bool false, vy, .int .i64 ey]] w fun r w' =>
      ∃ v', r = .returned (.tuple #[.agg #[.bool false, v', .int .i64 0], .bool (restB (A % B))]) ∧ mRd.R w' base (A / B) [v'] ∧ Below w.heap.size w w' := by
  have HX := Lib.hid hx
  have HY := Lib.hid hy
  have HLV := Lib.hid (fun (W : World) (hW : Below w.heap.size w W) => level_calls K base L ex ey mx my false false vx vy W (mRd.below hx hW) (mRd.below hy hW) (fun _ => hex) (fun _ => hey) hbx hby hX hY hL)
  have HP := Lib.hid (And.intro h0x (And.intro h0y (And.intro hX (And.intro hY hL))))
  have hW0 : Below w.heap.size w (((w.alloc (.cells #[.bool false, vx, .int .i64 ex] 25)).alloc (.cells #[.bool false, vy, .int .i64 ey] 25)).alloc (.cells #[.bool false, .slice none 0 0, .int .i64 0] 25)) := below_new (below_new (below_new (Below.refl _ _) _) _) _
  have HW0 := Lib.hid hW0
  have H40 : Hid (Blk (((w.alloc (.cells #[.bool false, vx, .int .i64 ex] 25)).alloc (.cells #[.bool false, vy, .int .i64 ey] 25)).alloc (.cells #[.bool false, .slice none 0 0, .int .i64 0] 25)) (w.heap.size + 1 + 1) 25 [.bool false, .slice none 0 0, .int .i64 0]) := by
    have := num_new ((w.alloc (.cells #[.bool false, vx, .int .i64 ex] 25)).alloc (.cells #[.bool false, vy, .int .i64 ey] 25))
    rw [Hid]
    simpa using this
  obtain ⟨xs0, A0, ca0, hv0, _⟩ := hx
  cases hv0
  obtain ⟨ys0, B0, cb0, hv1, _⟩ := hy
  cases hv1
  have HB := Lib.hid hbase
  clear hex hey hbx hby hX hY hL h0x h0y hW0 hbase
  go_enter Tryz.func107, Tryz.ntmps107
  go_wp2_with fail
  refine (HLV.out _ HW0.out).mono ?_
  rintro r w1 ⟨va, vb, e, rfl, hLev, hW1⟩
  obtain ⟨ma, mb, hma, hmb, zma, zmb, hval⟩ := hLev
  obtain ⟨he, heb, eX, eY⟩ := hval HP.out.1 HP.out.2.1
  obtain ⟨j0, hj0⟩ : ∃ j, (e + K).toNat = j := ⟨_, rfl⟩
  have hP3 := HP.out.2.2
  rw [hA, hB] at hP3
  rw [hA, hj0] at eX
  rw [hB, hj0] at eY
  have eX' : A = ma * 2 ^ j0 := by
    have h : (A : Int) = ((ma * 2 ^ j0 : Nat) : Int) := eX
    exact Int.ofNat.inj h
  have eY' : B = mb * 2 ^ j0 := by
    have h : (B : Int) = ((mb * 2 ^ j0 : Nat) : Int) := eY
    exact Int.ofNat.inj h
  have hma0 : ma ≠ 0 := fun h => HP.out.1 (zma.1 h)
  have hmb0 : mb ≠ 0 := fun h => HP.out.2.1 (zmb.1 h)
  have hmaL : ma < 2 ^ L := man_lt (neg := false) (k := j0) (by rw [← eX']; exact hP3.1)
  have hmbL : mb < 2 ^ L := man_lt (neg := false) (k := j0) (by rw [← eY']; exact hP3.2.1)
  have hL := hP3.2.2
  have hQ : A / B = ma / mb ∧ restB (A % B) = restB (ma % mb) := by
    have hp : 0 < 2 ^ j0 := Nat.pow_pos (by decide)
    rw [eX', eY']
    exact ⟨Nat.mul_div_mul_right _ _ hp, by
      rw [Nat.mul_mod_mul_right]
      unfold restB
      by_cases h : ma % mb = 0
      · rw [h, Nat.zero_mul]
      · rw [decide_eq_true h, decide_eq_true (Nat.mul_ne_zero h (by omega))]⟩
  have HQ := Lib.hid hQ
  have HW1 := Lib.hid (HW0.out.trans (hW1.mono HW0.out.size))
  have H4 := Lib.hid (H40.out.below' hW1)
  have hbla : bl ma ≤ L := bl_le_of_lt hmaL
  have hblb : bl mb ≤ L := bl_le_of_lt hmbL
  have HMA := Lib.hid hma
  have HMB := Lib.hid hmb
  obtain ⟨xs, A1, c1, hv, hc1, hr1, ht1, hv1⟩ := hma
  cases hv
  obtain ⟨ys, B1, c2, hv, hc2, hr2, ht2, hv2⟩ := hmb
  cases hv
  have hxl := man_len ht1 hv1 hmaL
  have hyl := man_len ht2 hv2 hmbL
  have HLX := Lib.hid (fun W (hW : Below w1.heap.size w1 W) => length_calls A1 xs.length c1 57 base xs W rfl (hr1.below hW) (by omega) ht1)
  have HLY := Lib.hid (fun W (hW : Below w1.heap.size w1 W) => length_calls B1 ys.length c2 57 base ys W rfl (hr2.below hW) (by omega) ht2)
  have HLF := Lib.hid (fun (i : Nat) (hi : i ≤ 1073741824) W (hW : Below w1.heap.size w1 W) => left_calls B1 ys.length c2 57 base base i ys W rfl (hr2.below hW) (by omega) (by omega))
  rw [hv1] at HLX
  rw [hv2] at HLY HLF
  have hxn : ((xs.length : Int) == 0) = false := by
    have := ht1.nil_iff (B := B32) (by decide)
    rw [hv1] at this
    simp
    exact fun h => hma0 (this.1 (by rw [h]; rfl))
  have HV := Lib.hid (And.intro hv1 hv2)
  have HXL := Lib.hid hxl
  have HNZ := Lib.hid (And.intro hma0 hmb0)
  have HML := Lib.hid (And.intro hmaL (And.intro hmbL hL))
  clear hW1 hval zma zmb he heb eX eY eX' eY' hQ hP3 hA hB hr1 hr2 ht1 ht2 hv1 hv2 hma0 hmb0 hmaL hmbL hxl hyl hj0
  have hLL : L ≤ 1073741824 := hL
  clear hL
  go_wp2_with fail
  refine (HLX.out _ (Below.refl _ _)).mono ?_
  rintro r w' ⟨rfl, rfl⟩
  go_wp2_with fail
  refine (HLY.out _ (Below.refl _ _)).mono ?_
  rintro r w' ⟨rfl, rfl⟩
  obtain ⟨la, hla⟩ : ∃ l, bl ma = l := ⟨_, rfl⟩
  obtain ⟨lb, hlb⟩ : ∃ l, bl mb = l := ⟨_, rfl⟩
  rw [hla] at hbla ⊢
  rw [hlb] at hblb ⊢
  have hwr : IntKind.i64.wrap ((la : Int) - (lb : Int)) = (la : Int) - (lb : Int) := IntWalk.i64_in _ (by omega)
  rcases Nat.lt_or_ge la lb with hlt | hge
  · have hneg : (la : Int) - (lb : Int) < 0 := by omega
    have hq : ma / mb = 0 ∧ restB (ma % mb) = true := by
      have h := bl_less (ma := ma) (mb := mb) (by omega)
      rw [Nat.div_eq_of_lt h, Nat.mod_eq_of_lt h]
      exact ⟨rfl, decide_eq_true HNZ.out.1⟩
    have HQ0 : Hid (A / B = 0 ∧ restB (A % B) = true) := ⟨HQ.out.1.trans hq.1, HQ.out.2.trans hq.2⟩
    have hpos : (0 : Int) < (xs.length : Int) := by
      have : (xs.length : Int) ≠ 0 := by simpa using hxn
      omega
    have hposN : 0 < xs.length := by omega
    clear hq
    obtain ⟨⟨r0, r1, r2⟩, t0, t1, t2⟩ := three H4.out
    go_wp2_with fail
    refine bodyPost_ret (v := .tuple #[.agg #[.bool false, .slice none 0 0, .int .i64 0], .bool true]) (by simp [results, Tryz.results107, go_sem, r0, r1, r2, hposN]) rfl ⟨_, by rw [HQ0.out.2], by rw [HQ0.out.1]; exact mRd_nil _ _ _ _, ?_⟩
    repeat (first | exact HW1.out | refine Below.setCell ?_ (by simp <;> omega) _)
  · obtain ⟨n, rfl⟩ : ∃ n, la = n + lb := ⟨la - lb, by omega⟩
    have hn : ((n + lb : Nat) : Int) - (lb : Int) = (n : Int) := by omega
    rw [hn] at hwr
    have hnn : ¬ (n : Int) < 0 := by omega
    have HQL := Lib.hid (bl_quot HNZ.out.2 (n := n) (by rw [hla, hlb]))
    have hm := fun W => make32 (n := n / 32 + 1) W (by omega)
    simp only [Int.natCast_add, Int.cast_ofNat_Int, Int.natCast_ediv] at hm
    clear hla hlb
    go_wp2_with fail
    clear hm
    have HH : Hid (w.heap.size + 1 + 1 < w1.heap.size) := H4.out.lt
    go_loopw [6, 11] (fun va i wr => ∃ (r j : Nat) (zs : List Nat), i = .int .i64 ((j : Int) - 1) ∧ j ≤ n + 1 ∧ Hid (PInv (n / 32 + 1) ma mb j r zs) ∧ Hid (∃ A k c, va = .slice A k c ∧ mRd.R wr base r [.slice A k c] ∧ Afar w1.heap.size A) ∧ Hid (Blk wr w1.heap.size 57 (i32s zs)) ∧ Hid (Blk wr (w.heap.size + 1 + 1) 25 [.bool false, .slice none 0 0, .int .i64 0]) ∧ Hid (Below w1.heap.size w1 wr)) (fun _ i _ => (intOf i + 1).toNat)
    case atStart =>
      refine ⟨ma, n + 1, List.replicate (n / 32 + 1) 0, by go_num, Nat.le_refl _, PInv.start HQL.out, ⟨_, _, _, rfl, mRd.below HMA.out (below_new (Below.refl _ _) _), mRd_old HMA.out HNZ.out.1 (Nat.le_refl _)⟩, ?_, H4.out.below' (below_new (Below.refl _ _) _), below_new (Below.refl _ _) _⟩
      rw [Hid, ← made32]; exact Blk.new _ _ _
    case round =>
      obtain ⟨r, j, zs, rfl, hj, hI, hR, hZ, h4, hWr⟩ := hrel
      rcases Nat.eq_zero_or_pos j with h0 | h0
      · subst h0
        obtain ⟨d1, d2⟩ := hI.out.done
        have HD : Hid (val B32 zs = A / B ∧ restB (A % B) = restB r) := ⟨d1.trans HQ.out.1.symm, by rw [HQ.out.2, d2]⟩
        have hzl := hI.out.len
        have HLT := Lib.hid (u32all (t := 57) (base := 0) hZ.out hI.out.all)
        have HBR := Lib.hid (HW1.out.trans (hWr.out.mono HW1.out.size))
        obtain ⟨A2, k3, c3, rfl, hRm, hfar⟩ := hR.out
        obtain ⟨rs, A2', c3', hv, hc3, hr3, ht3, hv3⟩ := hRm
        cases hv
        have hz3 := ht3.nil_iff (B := B32) (by decide)
        rw [hv3] at hz3
        obtain ⟨⟨r0, r1, r2⟩, t0, t1, t2⟩ := three h4.out
        have hn1 : ¬ ((0 : Nat) : Int) - 1 ≥ 0 := by decide
        have hne : w1.heap.size ≠ w.heap.size + 1 + 1 := by have := HH.out; omega
        have HZA := Lib.hid hI.out.all
        clear d1 d2 hI ht3 hr3
        have hrb : restB r = decide ((0 : Int) < (rs.length : Int)) := by
          unfold restB
          by_cases h : r = 0
          · have := hz3.2 h
            rw [h, this]; rfl
          · have : rs.length ≠ 0 := fun h' => h (hz3.1 h')
            rw [decide_eq_true h, decide_eq_true (by omega)]
        go_wp2_with fail
        refine (trim_calls _ _ _ 57 0 zs _ hzl HLT.out (by omega) (Nat.le_refl _)).mono ?_
        rintro e w' ⟨rfl, rfl⟩
        go_wp2_with fail
        refine bodyPost_ret (v := .tuple #[.agg #[.bool false, .slice (some ⟨w1.heap.size, 0, none⟩) (trimLen zs (n / 32 + 1)) (n / 32 + 1), .int .i64 0], .bool (decide ((0 : Int) < (rs.length : Int)))]) (by simp [results, Tryz.results107, go_sem, r0, r1, r2]) rfl ⟨_, by rw [HD.out.2, hrb], ?_, ?_⟩
        · refine mRd_trim (zs := zs) ?_ HZA.out hzl (Nat.le_refl _) HD.out.1
          repeat (first | exact hZ.out | refine Blk.far ?_ (by simp <;> omega) _)
        · repeat (first | exact HBR.out | refine Below.setCell ?_ (by simp <;> omega) _)
      · obtain ⟨i, rfl⟩ : ∃ i, j = i + 1 := ⟨j - 1, by omega⟩
        have ei : ((i + 1 : Nat) : Int) - 1 = (i : Int) := by omega
        rw [ei]
        have hi0 : (0 : Int) ≤ (i : Int) := by omega
        go_wp2_with fail
        refine (HLF.out i (by omega) _ hWr.out).mono ?_
        rintro e w2 ⟨vc, rfl, hmc, hW2⟩
        have HC2 := Lib.hid hmc
        obtain ⟨cs, A3, c4, hv, hc4, hr4, ht4, hv4⟩ := hmc
        cases hv
        obtain ⟨A2, k3, c3, rfl, hRm, hfar⟩ := hR.out
        have HRM := Lib.hid hRm
        obtain ⟨rs, A2', c3', hv, hc3, hr3, ht3, hv3⟩ := hRm
        cases hv
        have hrL : r < 2 ^ L := by
          have h := hI.out.eq
          have := HML.out.1
          omega
        have hcL : mb * 2 ^ i < 2 ^ (L + L) := by
          have h1 := HML.out.2.1
          rw [Nat.pow_add]
          refine Nat.lt_of_lt_of_le (Nat.mul_lt_mul_of_pos_right h1 (Nat.pow_pos (by decide))) (Nat.mul_le_mul_left _ (Nat.pow_le_pow_right (by decide) (by omega)))
        have hrl := man_len ht3 hv3 hrL
        have hcl := man_len ht4 hv4 hcL
        have HCM := Lib.hid (cmp_calls A2 A3 rs.length cs.length c3 c4 57 57 base base rs cs w2 rfl rfl (hr3.below hW2) hr4 (by omega) (by omega) ht3 ht4)
        rw [hv3, hv4] at HCM
        have H5 : Hid (Blk w2 w1.heap.size 57 (i32s zs) ∧ Blk w2 (w.heap.size + 1 + 1) 25 [.bool false, .slice none 0 0, .int .i64 0] ∧ Below w1.heap.size w1 w2 ∧ mRd.R w2 base r [.slice A2 rs.length c3]) := ⟨hZ.out.below' hW2, h4.out.below' hW2, hWr.out.trans (hW2.mono hWr.out.size), mRd.below HRM.out hW2⟩
        rcases Nat.lt_or_ge r (mb * 2 ^ i) with hlt | hge
        · rw [cmpN_lt hlt] at HCM
          have HI2 := Lib.hid (hI.out.down hlt)
          have HFAR := Lib.hid hfar
          clear hI hR hZ h4 hWr hr3 hr4 ht3 ht4 hv3 hv4 hrL hcL hrl hcl hW2 HLF
          go_wp2_with fail
          refine HCM.out.mono ?_
          rintro e w3 ⟨rfl, q, rfl⟩
          go_wp2_with fail
          have hd := below_drewN (Below.refl w2.heap.size w2) q
          exact ⟨⟨r, i, zs, rfl, by omega, HI2.out, ⟨_, _, _, rfl, mRd.below H5.out.2.2.2 hd, HFAR.out⟩, H5.out.1.below' hd, H5.out.2.1.below' hd, below_drewN H5.out.2.2.1 q⟩, by simp [intOf] <;> omega⟩
        · have hge0 : ¬ cmpN r (mb * 2 ^ i) < 0 := by
            rcases Nat.lt_or_eq_of_le hge with h | h
            · rw [cmpN_gt h]; decide
            · rw [← h, cmpN_eq]; decide
          obtain ⟨cr, hcr⟩ : ∃ c, cmpN r (mb * 2 ^ i) = c := ⟨_, rfl⟩
          rw [hcr] at HCM hge0
          have hge1 : (0 : Int) ≤ cr := by omega
          have hll : cs.length ≤ rs.length := by
            rcases Nat.lt_or_ge rs.length cs.length with h | h
            · have := val_lt_of_len (B := B32) (by decide) (u32bd hr3) ht4 h
              rw [hv3, hv4] at this
              omega
            · exact h
          have HMN := Lib.hid (fun W (hW : Below w2.heap.size w2 W) => minus_own A2 A3 rs.length cs.length c3 c4 57 57 base base base rs cs W rfl rfl ((hr3.below hW2).below hW) (hr4.below hW) hll (by omega) (by rw [hv3, hv4]; exact hge))
          rw [hv3, hv4] at HMN
          have hk : i / 32 < zs.length := by rw [hI.out.len]; omega
          have hkN : i / 32 < n / 32 + 1 := by omega
          obtain ⟨b1, b2, HI3⟩ := hI.out.bit hge hkN rfl
          have HI4 := Lib.hid HI3
          have HXX := Lib.hid (And.intro b1 b2)
          have hi3 : (i : Int) / 32 < ((n / 32 + 1 : Nat) : Int) := by omega
          have HI0 := Lib.hid (And.intro hI.out.all hI.out.len)
          clear hI hR hZ h4 hWr hr3 hr4 ht3 ht4 hv3 hv4 hrL hcL hrl hcl hW2 HLF hge HI3 b1 b2 hcr
          go_wp2_with fail
          refine HCM.out.mono ?_
          rintro e w3 ⟨rfl, q, rfl⟩
          go_wp2_with fail
          refine (HMN.out _ (below_drewN (Below.refl w2.heap.size w2) q)).mono ?_
          rintro e w4 ⟨k9, c9, rfl, hm2, hW4⟩
          have hs25 : w1.heap.size < w2.heap.size := H5.out.1.lt
          have hb4 : Below w2.heap.size w2 w4 := Below.trans (below_drewN (Below.refl w2.heap.size w2) q) hW4
          have H6 : Hid (Blk w4 w1.heap.size 57 (i32s zs) ∧ Blk w4 (w.heap.size + 1 + 1) 25 [.bool false, .slice none 0 0, .int .i64 0] ∧ Below w1.heap.size w1 w4 ∧ mRd.R w4 base (r - mb * 2 ^ i) [.slice (some ⟨(w2.drewN q).heap.size, 0, none⟩) k9 c9]) := ⟨H5.out.1.below' hb4, H5.out.2.1.below' hb4, H5.out.2.2.1.trans (hb4.mono H5.out.2.2.1.size), hm2⟩
          obtain ⟨y, hy1, hy2, hyb, hye⟩ := (H6.out.1).at32 (i := i / 32) hk HI0.out.1
          have HI5 : Hid (PInv (n / 32 + 1) ma mb i (r - mb * 2 ^ i) (zs.set (i / 32) (y + 2 ^ (i % 32)))) := by rw [← hye.out]; exact HI4.out
          have HOR : Hid (bits .or .u32 (y : Int) ((2 : Int) ^ (i % 32) % 4294967296) = ((y + 2 ^ (i % 32) : Nat) : Int)) := by
            have h := HXX.out
            rw [hye.out] at h
            exact or_bit (Nat.mod_lt _ (by decide)) h.1 h.2
          have hne : w1.heap.size ≠ w.heap.size + 1 + 1 := by have := HH.out; omega
          have HB6 := Lib.hid (H6.out.1.set32 (i / 32) (y + 2 ^ (i % 32)) _ HOR.out)
          have hfr : Afar w1.heap.size (some ⟨(w2.drewN q).heap.size, 0, none⟩) := by
            intro a ha e
            cases ha
            have h1 := hs25
            have h2 : (w2.drewN q).heap.size = w2.heap.size := rfl
            simp only at e
            omega
          have HM6 := Lib.hid (mRd_far H6.out.2.2.2 hfr (i / 32) (.int .u32 (bits .or .u32 (y : Int) ((2 : Int) ^ (i % 32) % 4294967296))))
          have HFR := Lib.hid hfr
          have HB7 := Lib.hid (H6.out.2.1.far (p := ⟨w1.heap.size, i / 32, none⟩) (Ne.symm hne) (.int .u32 (bits .or .u32 (y : Int) ((2 : Int) ^ (i % 32) % 4294967296))))
          have HW7 := Lib.hid (H6.out.2.2.1.setCell (p := ⟨w1.heap.size, i / 32, none⟩) (Nat.le_refl _) (.int .u32 (bits .or .u32 (y : Int) ((2 : Int) ^ (i % 32) % 4294967296))))
          clear hm2 hW4 hb4 H5 HI4 hye hfr hs25
          go_wp2_with fail
          go_region
          all_goals (
            go_wp2
            exact ⟨⟨r - mb * 2 ^ i, i, _, rfl, by omega, HI5.out, ⟨_, _, _, rfl, HM6.out, HFR.out⟩, HB6.out, HB7.out, (by first | exact HW7.out | exact Below.drew HW7.out)⟩, by simp [intOf] <;> omega⟩)
end Go.Proofs.YtogjodnmegafdaaGreatFmt
